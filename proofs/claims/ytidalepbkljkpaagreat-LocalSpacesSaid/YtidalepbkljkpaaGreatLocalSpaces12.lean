import Derived.Test.YtidalepbkljkpaaGreatLocalSpaces11
import Derived.Test.YtidalepbkljkpaaGreatLocalSpaces04
import Derived.Test.YtidalepbkljkpaaGreatLocalSpaces02
set_option linter.all false
namespace Go.Proofs.YtidalepbkljkpaaGreat
open Go.RowKit Go.H
set_option maxHeartbeats 1000000
set_option maxRecDepth 100000
section
def itemsB (l:List KV):Bs:=(l.map fun x=>bytesB x.1++bytesB x.2).flatten
theorem z7b {l:List KV} {k:Nat} (h:k<l.length):itemsB (l.take (k+1))=itemsB (l.take k)++bytesB l[k].1++bytesB l[k].2:=by
 rw[List.take_succ_eq_append_getElem h];simp only[itemsB,List.map_append,List.flatten_append,List.map_cons,List.map_nil,List.flatten_cons,List.flatten_nil,List.append_nil,List.append_assoc]
theorem z7c {l:List KV} (h:∀x∈l,KVok x):(itemsB l).length≤l.length*1868:=by
 induction l with
 |nil=>simp[itemsB]
 | cons x l ih =>
   have h1:=h x (by simp)
   have h2:=ih (fun y hy=>h y (List.mem_cons_of_mem _ hy))
   have u1:=z1b x.1.length
   have u2:=z1b x.2.length
   unfold KVok at h1
   simp only[itemsB,List.map_cons,List.flatten_cons,List.length_append,bytesB,List.length_cons] at h2⊢
   omega
def idsB (ids:List Nat):Bs:=(ids.map uintB).flatten
theorem z7d {l:List Nat} {k:Nat} (h:k<l.length):idsB (l.take (k+1))=idsB (l.take k)++uintB l[k]:=by
 rw[List.take_succ_eq_append_getElem h];simp only[idsB,List.map_append,List.flatten_append,List.map_cons,List.map_nil,List.flatten_cons,List.flatten_nil,List.append_nil,List.append_assoc]
theorem z7e (l:List Nat):(idsB l).length≤l.length*2:=by
 induction l with
 |nil=>simp[idsB]
 | cons x l ih =>
   have u1:=z1b x
   simp only[idsB,List.map_cons,List.flatten_cons,List.length_append,List.length_cons] at ih⊢
   omega
theorem z7f (l:List KV) (ids:List Nat):encB l ids=(if ids=[] then 1 else 2)::uintB l.length++itemsB l++idsB ids:=rfl
theorem z7g {F:Nat→Prop} {w:World} {n g o id:Nat} {l:List KV} {kvs:List Value} {v:Value} (h:NodeAt F w n g o id l kvs v) :
 ∃lv,ItemsAt F w lv l∧∀w',Fr C0 w w'→Calls Tryz.prog 114 #[v] w' fun e w''=>e=.returned lv∧w'=w'':=by
 obtain⟨lv,h0,h1,h2,h3⟩:=h
 refine⟨lv,h2,fun w' hf=>?_⟩
 rcases h3 with⟨_,rfl⟩|⟨_,rfl,_⟩
 · exact z63 n lv w' (hf.cell0 h1)
 · exact z64 n lv w' (hf.cell0 h1)
theorem z7h {F:Nat→Prop} {w:World} {n g o id:Nat} {l:List KV} {v:Value} (h:NodeAt F w n g o id l [] v) (hl:l.length≤4) (hkv:∀x∈l,KVok x) :
 Calls Tryz.prog 170 #[v] w fun e w'=>∃v',e=.returned v'∧Fr C0 w w'∧w'.ownsRow w.heap.size 5 1 v' (encB l []).length ((encB l []).map bv):=by
 obtain⟨lv,hlv,hit⟩:=z7g h
 have HIT:=zhd hit
 have hlv2:=hlv.mono (F':=fun b=>b<w.heap.size) (fun b _ h=>h)
 obtain⟨_,h0,h1,h2,h3⟩:=h
 obtain⟨A,c,rfl,hc1,hc2,hc3⟩:=hlv2
 have HC3:=zhd hc3
 have HKV:=zhd hkv
 unfold maxLen at hc2
 clear hit h0 h1 h2 hc3 hlv hkv
 rcases h3 with⟨_,rfl⟩|⟨hne,_⟩
 · go_enter Tryz.func170,Tryz.ntmps170
   go_wp2_with fail
   refine(HIT.out _ (Fr.refl _ _)).mono ?_
   rintro e w1 ⟨rfl,rfl⟩
   go_wp2_with fail
   refine(z2x l.length (by omega) _).mono ?_
   rintro e w2 ⟨v2,rfl,f2,o2⟩
   have F2:=zhd (((Fr.refl C0 w).alloc (.cells #[.int .u8 1] 5)).trans0 f2)
   have hsz2:=f2.size
   have OL:=zhd (z0m (World.ownsRow_lit w #[bv 1] (e:=5) (size:=1) 1 (Nat.le_refl _) (by unfold maxLen;omega) rfl) f2 (fun _ _ h=>h))
   have OU:=zhd o2
   have hu2:=z1b l.length
   clear f2 o2
   have hsz2':w.heap.size+1≤w2.heap.size:=by simpa using hsz2
   go_wp2_with (at_builtin;refine z0l z2o rfl _ _ rfl (v:=.slice (some ⟨w.heap.size,0,none⟩) 1 1) (xv:=v2) rfl rfl OL.out (Row.ofOwn OU.out (F:=fun _=>True) (fun _ _=>trivial)) (z1c _) (by unfold maxLen;omega) (by omega) (by omega) ?_;intro v3 w3 o3 f3 k3 nil3)
   have F3:=zhd (F2.out.transO f3 (fun b e=>by simp[Value.ownBlock] at e;omega))
   have O3:Hid (w3.ownsRow w.heap.size 5 1 v3 (1::uintB l.length++itemsB (l.take 0)).length ((1::uintB l.length++itemsB (l.take 0)).map bv)):=zhd (by simpa [itemsB,Nat.add_comm] using o3)
   clear o3 f3 k3 nil3 OL OU F2 hsz2
   go_loopw [4,8,29] (fun b _ i wr=>∃k:Nat,k≤l.length∧i=.int .i64 (k:Int)∧Hid (Fr C0 w wr)∧Hid (wr.ownsRow w.heap.size 5 1 b (1::uintB l.length++itemsB (l.take k)).length ((1::uintB l.length++itemsB (l.take k)).map bv))) (fun _ _ i _=>l.length-(intOf i).toNat)
   case atStart=>exact⟨0,Nat.zero_le _,rfl,F3,O3⟩
   case round=>
    obtain⟨k,hk,rfl,HF,HO⟩:=hrel
    by_cases hlt:k<l.length
    · obtain⟨g,o,rfl,hFg,hc⟩:=HC3.out (by intro h;subst h;simp at hlt)
      obtain⟨kv,vv,d1,d2,d3,d4⟩:=hc k hlt
      have d1':=HF.out.cell0 d1
      have d2':=HF.out.cell0 d2
      obtain⟨kA,kc,rfl,-⟩:=(show _ from d3)
      obtain⟨vA,vc,rfl,-⟩:=(show _ from d4)
      have HK:=zhd d3
      have HV:=zhd d4
      have hx:=HKV.out l[k] (List.getElem_mem hlt)
      have hle:=z7c (l:=l.take k) (fun x hx=>HKV.out x (List.mem_of_mem_take hx))
      have hlen:(l.take k).length≤4:=by rw[List.length_take];omega
      have hszr:=HF.out.size
      have hob:=fun b e=>HO.out.lt b e
      have hLl:(1::uintB l.length++itemsB (l.take k)).length≤7500:=by simp only[List.length_append,List.length_cons];omega
      have hstep:Hid (1::uintB l.length++itemsB (l.take (k+1))=(1::uintB l.length++itemsB (l.take k))++bytesB l[k].1++bytesB l[k].2):=zhd (by rw[z7b hlt];simp only[List.append_assoc,List.cons_append])
      unfold KVok at hx
      have hb1:=z1b l[k].1.length
      have hb2:=z1b l[k].2.length
      have hB1:(bytesB l[k].1).length≤70:=by simp only[bytesB,List.length_append];omega
      have hB2:(bytesB l[k].2).length≤1810:=by simp only[bytesB,List.length_append];omega
      generalize 1::uintB l.length++itemsB (l.take k)=L at *
      clear d1 d2 d3 d4 hc hb1 hb2 hlen
      go_wp2_with fail
      have q0:(wr.alloc (.cells #[.slice kA l[k].1.length kc,.slice vA l[k].2.length vc] 200)).cell? ⟨wr.heap.size,0,none⟩=some (.slice kA l[k].1.length kc):=z2k (heap_alloc_new _ _) 0 rfl
      have q1:(wr.alloc (.cells #[.slice kA l[k].1.length kc,.slice vA l[k].2.length vc] 200)).cell? ⟨wr.heap.size,1,none⟩=some (.slice vA l[k].2.length vc):=z2k (heap_alloc_new _ _) 1 rfl
      have hnb:¬u4.ownBlock=some wr.heap.size:=fun e=>by have:=(hob _ e).2;omega
      have FW:=zhd (HF.out.alloc (.cells #[.slice kA l[k].1.length kc,.slice vA l[k].2.length vc] 200))
      have FRW:=zhd ((Fr.refl C0 wr).alloc (.cells #[.slice kA l[k].1.length kc,.slice vA l[k].2.length vc] 200))
      have hszW:=FRW.out.size
      refine z1z (Fr (fun b=>u4.ownBlock=some b) (wr.alloc (.cells #[.slice kA l[k].1.length kc,.slice vA l[k].2.length vc] 200))) [] (by kernel_rfl) ?_
      have hSw0:(Fr (fun b=>u4.ownBlock=some b) (wr.alloc (.cells #[.slice kA l[k].1.length kc,.slice vA l[k].2.length vc] 200))) _:=(Fr.refl _ _).drew
      refine tk 0 hSw0 ?_
      refine tk 1 hSw0 ?_
      refine tk 2 hSw0 ?_ (hy:=by intro w_ hS_;have b0:=hS_.cell q0 hnb;have b1:=hS_.cell q1 hnb;first|(go_simp;done)|(go_simp;with_reducible rfl))
      refine tk 5 hSw0 ?_
      refine tk 6 hSw0 ?_ (hy:=by intro w_ hS_;have b0:=hS_.cell q0 hnb;have b1:=hS_.cell q1 hnb;first|(go_simp;done)|(go_simp;with_reducible rfl))
      refine one_ 3 rfl (fun K hK=>?_)
      go_simp
      refine(z78 (HK.out.fr0 FW.out.drew) (by omega)).mono ?_
      rintro e w5 ⟨v5,rfl,f5,o5⟩
      simp only[]
      have O5:=zhd o5
      have G5:=zhd (FW.out.drew.trans0 f5)
      have R5:=zhd (FRW.out.drew.trans0 f5)
      have S5:=zhd ((Fr.refl (fun b=>u4.ownBlock=some b) (wr.alloc (.cells #[.slice kA l[k].1.length kc,.slice vA l[k].2.length vc] 200))).drew.trans0 f5)
      have hsz5:=R5.out.size
      have hszS:=S5.out.size
      clear f5 o5
      refine hK.out _ _ ?kS1 (fun hSw1=>?kR1)
      case kS1=>exact S5.out
      clear hK K
      try simp only[Act.put,zs1,zs2,zs3]
      refine one_ 4 rfl (fun K hK=>?_)
      refine z0k z2o _ _ rfl (v:=u4) (xv:=v5) rfl rfl (z0m HO.out R5.out (fun _ _ h=>h)) (Row.ofOwn O5.out (F:=fun _=>True) (fun _ _=>trivial)) (z1c _) (by unfold maxLen;omega) (by omega) (by omega) ?_
      intro v6 w6 o6 f6 k6 nil6
      have O6:=zhd o6
      have S6:=zhd (S5.out.trans f6 (fun _ _ h=>h))
      have G6:=zhd (G5.out.transO f6 (fun b e=>(hob b e).1))
      have hsz6:=f6.size
      have K6:=zhd k6
      clear o6 f6 k6 nil6
      refine hK.out _ _ ?kS2 (fun hSw2=>?kR2)
      case kS2=>exact S6.out
      clear hK K
      try simp only[Act.put,zs1,zs2,zs3]
      refine one_ 7 rfl (fun K hK=>?_)
      go_simp
      refine(z78 (HV.out.fr0 G6.out) (by omega)).mono ?_
      rintro e w7 ⟨v7,rfl,f7,o7⟩
      simp only[]
      have O7:=zhd o7
      have O67:=zhd (z0m O6.out f7 (fun _ _ h=>h))
      have S7:=zhd (S6.out.trans0 f7)
      have G7:=zhd (G6.out.trans0 f7)
      have hsz7:=f7.size
      clear f7 o7
      refine hK.out _ _ ?kS3 (fun hSw3=>?kR3)
      case kS3=>exact S7.out
      clear hK K
      try simp only[Act.put,zs1,zs2,zs3]
      refine one_ 8 rfl (fun K hK=>?_)
      refine z0k z2o _ _ rfl (v:=v6) (xv:=v7) rfl rfl O67.out (Row.ofOwn O7.out (F:=fun _=>True) (fun _ _=>trivial)) (z1c _) (by unfold maxLen;omega) (by omega) (by omega) ?_
      intro v8 w8 o8 f8 k8 nil8
      have O8:=zhd o8
      have G8:=zhd (G7.out.transO f8 (fun b e=>(O67.out.lt b e).1))
      have S8:=zhd (S7.out.trans f8 (fun b hb e=>(K6.out b e).elim (fun h=>h) (fun h=>by omega)))
      clear o8 f8 k8 nil8
      refine hK.out _ _ ?kS4 (fun hSw4=>?kR4)
      case kS4=>exact S8.out
      clear hK K
      try simp only[Act.put,zs1,zs2,zs3]
      refine tk 9 hSw4 ?_
      refine z1y (by kernel_rfl) ?_ _
      go_wp2
      go_roundw
      case rel=>
       refine⟨k+1,by omega,by go_num,G8,?_⟩
       refine zhd ?_
       rw[hstep.out]
       simpa [Nat.add_assoc] using O8.out
      case measure=>simp[intOf];omega
    · obtain rfl:k=l.length:=by omega
      go_wp2
      go_ret
      refine⟨u4,rfl,HF.out,?_⟩
      have:=HO.out
      rw[List.take_length] at this
      simpa [z7f,idsB] using this
 · exact absurd rfl hne
theorem z7i {F:Nat→Prop} {w:World} {n g o id:Nat} {l:List KV} {kvs:List Value} {ids:List Nat} {v:Value} (h:NodeAt F w n g o id l kvs v) (hk0:kvs≠[]) (hn:Nums w kvs ids) (hl:l.length≤4) (hkv:∀x∈l,KVok x) (hids:ids.length≤5) (hidb:∀k∈ids,k<16384) :
 Calls Tryz.prog 170 #[v] w fun e w'=>∃v',e=.returned v'∧Fr C0 w w'∧w'.ownsRow w.heap.size 5 1 v' (encB l ids).length ((encB l ids).map bv):=by
 obtain⟨lv,hlv,hit⟩:=z7g h
 have HIT:=zhd hit
 have hlv2:=hlv.mono (F':=fun b=>b<w.heap.size) (fun b _ h=>h)
 obtain⟨_,h0,h1,h2,h3⟩:=h
 obtain⟨A,c,rfl,hc1,hc2,hc3⟩:=hlv2
 have HC3:=zhd hc3
 have HKV:=zhd hkv
 unfold maxLen at hc2
 clear hit h0 h1 h2 hc3 hlv hkv
 have HN:=zhd hn
 have HIB:=zhd hidb
 have hkl:=All2.length hn
 clear hn hidb
 have hids0:ids≠[]:=fun e=>hk0 (by rw[e] at hkl;simpa using hkl)
 rcases h3 with⟨e,_⟩|⟨hne,rfl,kc,k0,k1,k2,k3⟩
 · exact absurd e hk0
 · go_enter Tryz.func170,Tryz.ntmps170
   go_wp2_with fail
   refine(HIT.out _ (Fr.refl _ _)).mono ?_
   rintro e w1 ⟨rfl,rfl⟩
   have HK3:=zhd k3
   have HK0:=zhd k0
   clear k3 k0
   have c0:(w.alloc (.cells #[.int .u8 1] 5)).cell? ⟨w.heap.size,0,none⟩=some (.int .u8 1):=z2k (heap_alloc_new _ _) 0 rfl
   have z0:(w.alloc (.cells #[.int .u8 1] 5)).frozen? ⟨w.heap.size,0,none⟩=false:=z2i 0 (heap_alloc_new _ _)
   go_wp2_with fail
   refine(z2x l.length (by omega) _).mono ?_
   rintro e w2 ⟨v2,rfl,f2,o2⟩
   have F2:=zhd (((Fr.refl C0 w).alloc (.cells #[.int .u8 2] 5)).trans0 f2)
   have hsz2:=f2.size
   have OL:=zhd (z0m (World.ownsRow_lit w #[bv 2] (e:=5) (size:=1) 1 (Nat.le_refl _) (by unfold maxLen;omega) rfl) f2 (fun _ _ h=>h))
   have OU:=zhd o2
   have hu2:=z1b l.length
   clear f2 o2
   have hsz2':w.heap.size+1≤w2.heap.size:=by simpa using hsz2
   go_wp2_with (at_builtin;refine z0l z2o rfl _ _ rfl (v:=.slice (some ⟨w.heap.size,0,none⟩) 1 1) (xv:=v2) rfl rfl OL.out (Row.ofOwn OU.out (F:=fun _=>True) (fun _ _=>trivial)) (z1c _) (by unfold maxLen;omega) (by omega) (by omega) ?_;intro v3 w3 o3 f3 k3 nil3)
   have F3:=zhd (F2.out.transO f3 (fun b e=>by simp[Value.ownBlock] at e;omega))
   have O3:Hid (w3.ownsRow w.heap.size 5 1 v3 (2::uintB l.length++itemsB (l.take 0)).length ((2::uintB l.length++itemsB (l.take 0)).map bv)):=zhd (by simpa [itemsB,Nat.add_comm] using o3)
   clear o3 f3 k3 nil3 OL OU F2 hsz2
   go_loopw [4,8,29] (fun b _ i wr=>∃k:Nat,k≤l.length∧i=.int .i64 (k:Int)∧Hid (Fr C0 w wr)∧Hid (wr.ownsRow w.heap.size 5 1 b (2::uintB l.length++itemsB (l.take k)).length ((2::uintB l.length++itemsB (l.take k)).map bv))) (fun _ _ i _=>l.length-(intOf i).toNat)
   case atStart=>exact⟨0,Nat.zero_le _,rfl,F3,O3⟩
   case round=>
    obtain⟨k,hk,rfl,HF,HO⟩:=hrel
    by_cases hlt:k<l.length
    · obtain⟨g,o,rfl,hFg,hc⟩:=HC3.out (by intro h;subst h;simp at hlt)
      obtain⟨kv,vv,d1,d2,d3,d4⟩:=hc k hlt
      have d1':=HF.out.cell0 d1
      have d2':=HF.out.cell0 d2
      obtain⟨kA,kc,rfl,-⟩:=(show _ from d3)
      obtain⟨vA,vc,rfl,-⟩:=(show _ from d4)
      have HK:=zhd d3
      have HV:=zhd d4
      have hx:=HKV.out l[k] (List.getElem_mem hlt)
      have hle:=z7c (l:=l.take k) (fun x hx=>HKV.out x (List.mem_of_mem_take hx))
      have hlen:(l.take k).length≤4:=by rw[List.length_take];omega
      have hszr:=HF.out.size
      have hob:=fun b e=>HO.out.lt b e
      have hLl:(2::uintB l.length++itemsB (l.take k)).length≤7500:=by simp only[List.length_append,List.length_cons];omega
      have hstep:Hid (2::uintB l.length++itemsB (l.take (k+1))=(2::uintB l.length++itemsB (l.take k))++bytesB l[k].1++bytesB l[k].2):=zhd (by rw[z7b hlt];simp only[List.append_assoc,List.cons_append])
      unfold KVok at hx
      have hb1:=z1b l[k].1.length
      have hb2:=z1b l[k].2.length
      have hB1:(bytesB l[k].1).length≤70:=by simp only[bytesB,List.length_append];omega
      have hB2:(bytesB l[k].2).length≤1810:=by simp only[bytesB,List.length_append];omega
      generalize 2::uintB l.length++itemsB (l.take k)=L at *
      clear d1 d2 d3 d4 hc hb1 hb2 hlen
      go_wp2_with fail
      have q0:(wr.alloc (.cells #[.slice kA l[k].1.length kc,.slice vA l[k].2.length vc] 200)).cell? ⟨wr.heap.size,0,none⟩=some (.slice kA l[k].1.length kc):=z2k (heap_alloc_new _ _) 0 rfl
      have q1:(wr.alloc (.cells #[.slice kA l[k].1.length kc,.slice vA l[k].2.length vc] 200)).cell? ⟨wr.heap.size,1,none⟩=some (.slice vA l[k].2.length vc):=z2k (heap_alloc_new _ _) 1 rfl
      have hnb:¬u4.ownBlock=some wr.heap.size:=fun e=>by have:=(hob _ e).2;omega
      have FW:=zhd (HF.out.alloc (.cells #[.slice kA l[k].1.length kc,.slice vA l[k].2.length vc] 200))
      have FRW:=zhd ((Fr.refl C0 wr).alloc (.cells #[.slice kA l[k].1.length kc,.slice vA l[k].2.length vc] 200))
      have hszW:=FRW.out.size
      refine z1z (Fr (fun b=>u4.ownBlock=some b) (wr.alloc (.cells #[.slice kA l[k].1.length kc,.slice vA l[k].2.length vc] 200))) [] (by kernel_rfl) ?_
      have hSw0:(Fr (fun b=>u4.ownBlock=some b) (wr.alloc (.cells #[.slice kA l[k].1.length kc,.slice vA l[k].2.length vc] 200))) _:=(Fr.refl _ _).drew
      refine tk 0 hSw0 ?_
      refine tk 1 hSw0 ?_
      refine tk 2 hSw0 ?_ (hy:=by intro w_ hS_;have b0:=hS_.cell q0 hnb;have b1:=hS_.cell q1 hnb;first|(go_simp;done)|(go_simp;with_reducible rfl))
      refine tk 5 hSw0 ?_
      refine tk 6 hSw0 ?_ (hy:=by intro w_ hS_;have b0:=hS_.cell q0 hnb;have b1:=hS_.cell q1 hnb;first|(go_simp;done)|(go_simp;with_reducible rfl))
      refine one_ 3 rfl (fun K hK=>?_)
      go_simp
      refine(z78 (HK.out.fr0 FW.out.drew) (by omega)).mono ?_
      rintro e w5 ⟨v5,rfl,f5,o5⟩
      simp only[]
      have O5:=zhd o5
      have G5:=zhd (FW.out.drew.trans0 f5)
      have R5:=zhd (FRW.out.drew.trans0 f5)
      have S5:=zhd ((Fr.refl (fun b=>u4.ownBlock=some b) (wr.alloc (.cells #[.slice kA l[k].1.length kc,.slice vA l[k].2.length vc] 200))).drew.trans0 f5)
      have hsz5:=R5.out.size
      have hszS:=S5.out.size
      clear f5 o5
      refine hK.out _ _ ?kS5 (fun hSw1=>?kR5)
      case kS5=>exact S5.out
      clear hK K
      try simp only[Act.put,zs1,zs2,zs3]
      refine one_ 4 rfl (fun K hK=>?_)
      refine z0k z2o _ _ rfl (v:=u4) (xv:=v5) rfl rfl (z0m HO.out R5.out (fun _ _ h=>h)) (Row.ofOwn O5.out (F:=fun _=>True) (fun _ _=>trivial)) (z1c _) (by unfold maxLen;omega) (by omega) (by omega) ?_
      intro v6 w6 o6 f6 k6 nil6
      have O6:=zhd o6
      have S6:=zhd (S5.out.trans f6 (fun _ _ h=>h))
      have G6:=zhd (G5.out.transO f6 (fun b e=>(hob b e).1))
      have hsz6:=f6.size
      have K6:=zhd k6
      clear o6 f6 k6 nil6
      refine hK.out _ _ ?kS6 (fun hSw2=>?kR6)
      case kS6=>exact S6.out
      clear hK K
      try simp only[Act.put,zs1,zs2,zs3]
      refine one_ 7 rfl (fun K hK=>?_)
      go_simp
      refine(z78 (HV.out.fr0 G6.out) (by omega)).mono ?_
      rintro e w7 ⟨v7,rfl,f7,o7⟩
      simp only[]
      have O7:=zhd o7
      have O67:=zhd (z0m O6.out f7 (fun _ _ h=>h))
      have S7:=zhd (S6.out.trans0 f7)
      have G7:=zhd (G6.out.trans0 f7)
      have hsz7:=f7.size
      clear f7 o7
      refine hK.out _ _ ?kS7 (fun hSw3=>?kR7)
      case kS7=>exact S7.out
      clear hK K
      try simp only[Act.put,zs1,zs2,zs3]
      refine one_ 8 rfl (fun K hK=>?_)
      refine z0k z2o _ _ rfl (v:=v6) (xv:=v7) rfl rfl O67.out (Row.ofOwn O7.out (F:=fun _=>True) (fun _ _=>trivial)) (z1c _) (by unfold maxLen;omega) (by omega) (by omega) ?_
      intro v8 w8 o8 f8 k8 nil8
      have O8:=zhd o8
      have G8:=zhd (G7.out.transO f8 (fun b e=>(O67.out.lt b e).1))
      have S8:=zhd (S7.out.trans f8 (fun b hb e=>(K6.out b e).elim (fun h=>h) (fun h=>by omega)))
      clear o8 f8 k8 nil8
      refine hK.out _ _ ?kS8 (fun hSw4=>?kR8)
      case kS8=>exact S8.out
      clear hK K
      try simp only[Act.put,zs1,zs2,zs3]
      refine tk 9 hSw4 ?_
      refine z1y (by kernel_rfl) ?_ _
      go_wp2
      go_roundw
      case rel=>
       refine⟨k+1,by omega,by go_num,G8,?_⟩
       refine zhd ?_
       rw[hstep.out]
       simpa [Nat.add_assoc] using O8.out
      case measure=>simp[intOf];omega
    · obtain rfl:k=l.length:=by omega
      have k0':=HF.out.cell0 HK0.out
      have HO1:=HO
      rw[List.take_length] at HO1
      have HF1:=HF
      have hsL:(2::uintB l.length++itemsB l).length≤7500:=by
       have hle:=z7c (l:=l) HKV.out
       have hb1:=z1b l.length
       simp only[List.length_append,List.length_cons];omega
      have HL1:Hid (∃L',L'=2::uintB l.length++itemsB l):=zhd ⟨_,rfl⟩
      obtain⟨L,hL⟩:=HL1.out
      rw[←hL] at HO1 hsL
      have HL1:=zhd hL
      clear HO HF hL
      go_wp2
      go_loopw [4,10,49] (fun b _ i wr2=>∃k:Nat,k≤ids.length∧i=.int .i64 (k:Int)∧Hid (Fr C0 w wr2)∧Hid (wr2.ownsRow w.heap.size 5 1 b (L++idsB (ids.take k)).length ((L++idsB (ids.take k)).map bv))) (fun _ _ i _=>ids.length-(intOf i).toNat)
      case atStart=>exact⟨0,Nat.zero_le _,rfl,HF1,zhd (by simpa [idsB] using HO1.out)⟩
      case round=>
       obtain⟨k,hk,rfl,HF,HO⟩:=hrel
       by_cases hlt:k<ids.length
       · have hltk:k<kvs.length:=by omega
         have hu:=HK3.out k kvs[k] (by simp[hltk])
         have hu':=HF.out.cell0 hu
         have HNK:=zhd (All2.get k hltk hlt HN.out)
         have hib:=HIB.out _ (List.getElem_mem hlt)
         have hle:=z7e (ids.take k)
         have hlen:(ids.take k).length≤5:=by rw[List.length_take];omega
         have hLl:(L++idsB (ids.take k)).length≤7600:=by simp only[List.length_append];omega
         have hstep:Hid (L++idsB (ids.take (k+1))=(L++idsB (ids.take k))++uintB ids[k]):=zhd (by rw[z7d hlt];simp only[List.append_assoc])
         have hb1:=z1b ids[k]
         generalize L++idsB (ids.take k)=M at *
         generalize kvs[k]=u at *
         clear hu hle hlen
         go_wp2_with fail
         refine(z76 (HNK.out.fr0 HF.out)).mono ?_
         rintro e w5 ⟨rfl,rfl⟩
         go_wp2_with fail
         refine(z2x ids[k] (by omega) _).mono ?_
         rintro e w5 ⟨v5,rfl,f5,o5⟩
         have O5:=zhd o5
         have G5:=zhd (HF.out.trans0 f5)
         have OL5:=zhd (z0m HO.out f5 (fun _ _ h=>h))
         have hsz5:=G5.out.size
         clear f5 o5
         go_wp2_with (at_builtin;refine z0l z2o rfl _ _ rfl (v:=u4) (xv:=v5) rfl rfl OL5.out (Row.ofOwn O5.out (F:=fun _=>True) (fun _ _=>trivial)) (z1c _) (by unfold maxLen;omega) (by omega) (by omega) ?_;intro v6 w6 o6 f6 k6 nil6)
         have G6:=zhd (G5.out.transO f6 (fun b e=>(OL5.out.lt b e).1))
         have O6:=zhd o6
         clear o6 f6 k6 nil6
         go_roundw
         case rel=>
          refine⟨k+1,by omega,by go_num,G6,?_⟩
          refine zhd ?_
          rw[hstep.out]
          simpa using O6.out
         case measure=>simp[intOf];omega
       · obtain rfl:k=ids.length:=by omega
         go_wp2
         go_ret
         refine⟨_,rfl,HF.out,?_⟩
         have:=HO.out
         rw[List.take_length] at this
         rw[z7f,if_neg hids0]
         exact HL1.out▸this
end
section
theorem z7j {F:Nat→Prop} {w:World} {rd at_ n:Nat} {v:Value} {l rest:Bs} (hb:w.heap[rd]?=some (.cells #[v,.int .i64 (at_:Int),.bool false] 244 (0,0))) (hv:BytesAt F w v l) (hat:l.drop at_=uintB n++rest) (hn:n<16384) (hll:l.length≤8192) :
 Calls Tryz.prog 158 #[.pointer (some ⟨rd,0,none⟩)] w fun e w'=>e=.returned (.int .i64 (n:Int))∧w'.heap[rd]?=some (.cells #[v,.int .i64 ((at_+(uintB n).length:Nat):Int),.bool false] 244 (0,0))∧Fr (fun b=>b=rd) w w':=by
 have c0:=z2k hb 0 rfl
 have c1:=z2k hb 1 rfl
 have c2:=z2k hb 2 rfl
 have z1:=z2i 1 hb
 have HB:=zhd hb
 have HR:=zhd (fun (w_:World) (hf:Fr C0 w w_)=>z79 (hv.fr0 hf) hat hn hll)
 obtain⟨A,c,rfl,-⟩:=hv.form
 clear hb hv hat
 go_enter Tryz.func158,Tryz.ntmps158
 go_wp2
 refine z1z (Fr C0 w) [] (by kernel_rfl) ?_
 have hSw0:(Fr C0 w) _:=(Fr.refl C0 w).drew
 refine tk 0 hSw0 ?_
 refine tk 1 hSw0 ?_
 refine tk 2 hSw0 ?_
 refine tk 3 hSw0 ?_ (hy:=by intro w_ hS_;have b0:=hS_.cell0 c0;have b1:=hS_.cell0 c1;first|(go_simp;done)|(go_simp;with_reducible rfl))
 refine tk 4 hSw0 ?_
 refine tk 5 hSw0 ?_
 refine tk 6 hSw0 ?_
 refine tk 7 hSw0 ?_ (hy:=by intro w_ hS_;have b0:=hS_.cell0 c0;have b1:=hS_.cell0 c1;first|(go_simp;done)|(go_simp;with_reducible rfl))
 refine one_ 8 rfl (fun K hK=>?_)
 go_simp
 refine(HR.out _ (Fr.refl C0 w).drew).mono ?_
 rintro e w2 ⟨rfl,rfl⟩
 simp only[]
 refine hK.out _ _ ?kS1 (fun hSw1=>?kR1)
 case kS1=>exact(Fr.refl C0 w).drew
 clear hK K
 try simp only[Act.put,zs1,zs2,zs3]
 refine tk 9 hSw1 ?_
 refine tk 10 hSw1 ?_
 refine tk 11 hSw1 ?_
 refine tk 12 hSw1 ?_
 refine tk 13 hSw1 ?_
 refine tk 14 hSw1 ?_
 refine tk 15 hSw1 ?_
 refine z1y (by kernel_rfl) ?_ _
 go_wp2
 go_ret
 have e1:(w.setCell ⟨rd,1,none⟩ (.int .i64 ((at_:Int)+((uintB n).length:Int)))).drew.heap[rd]?=some (.cells #[.slice A l.length c,.int .i64 ((at_:Int)+((uintB n).length:Int)),.bool false] 244 (0,0)):=z2j (i:=1) HB.out _
 refine⟨rfl,by simpa using e1,((Fr.refl (fun b=>b=rd) w).setCell (p:=⟨rd,1,none⟩) (.inr rfl) _).drew⟩
theorem z7k {F:Nat→Prop} {w:World} {rd at_ most:Nat} {v:Value} {l s rest:Bs} (hb:w.heap[rd]?=some (.cells #[v,.int .i64 (at_:Int),.bool false] 244 (0,0))) (hv:BytesAt F w v l) (hat:l.drop at_=bytesB s++rest) (hn:s.length<16384) (hm:s.length≤most) (hmm:most≤100000) (hll:l.length≤8192) :
 Calls Tryz.prog 159 #[.pointer (some ⟨rd,0,none⟩),.int .i64 (most:Int)] w fun e w'=>∃v',e=.returned v'∧BytesAt (fun b=>w.heap.size≤b) w' v' s∧w'.heap[rd]?=some (.cells #[v,.int .i64 ((at_+(bytesB s).length:Nat):Int),.bool false] 244 (0,0))∧Fr (fun b=>b=rd) w w':=by
 have c0:=z2k hb 0 rfl
 have c1:=z2k hb 1 rfl
 have c2:=z2k hb 2 rfl
 have z1:=z2i 1 hb
 have HB:=zhd hb
 have hrd:=(Array.getElem?_eq_some_iff.1 hb).1
 have HR:=zhd (fun (w_:World) (hf:Fr C0 w w_)=>z7a (hv.fr0 hf) hat hm hn hll hmm)
 obtain⟨A,c,rfl,-⟩:=hv.form
 clear hb hv hat
 go_enter Tryz.func159,Tryz.ntmps159
 go_wp2
 refine z1z (Fr C0 w) [] (by kernel_rfl) ?_
 have hSw0:(Fr C0 w) _:=(Fr.refl C0 w).drew
 refine tk 0 hSw0 ?_
 refine tk 1 hSw0 ?_
 refine tk 2 hSw0 ?_
 refine tk 3 hSw0 ?_ (hy:=by intro w_ hS_;have b0:=hS_.cell0 c0;have b1:=hS_.cell0 c1;first|(go_simp;done)|(go_simp;with_reducible rfl))
 refine tk 4 hSw0 ?_
 refine tk 5 hSw0 ?_
 refine tk 6 hSw0 ?_
 refine tk 7 hSw0 ?_ (hy:=by intro w_ hS_;have b0:=hS_.cell0 c0;have b1:=hS_.cell0 c1;first|(go_simp;done)|(go_simp;with_reducible rfl))
 refine tk 8 hSw0 ?_
 refine one_ 9 rfl (fun K hK=>?_)
 go_simp
 refine(HR.out _ (Fr.refl C0 w).drew).mono ?_
 rintro e w2 ⟨v2,rfl,f2,o2⟩
 simp only[]
 have F2:=zhd ((Fr.refl C0 w).drew.trans0 f2)
 have O2:=zhd (BytesAt.ofOwn o2 (fun b e=>(o2.lt b e).1))
 clear f2 o2
 refine hK.out _ _ ?kS2 (fun hSw1=>?kR2)
 case kS2=>exact F2.out
 clear hK K
 try simp only[Act.put,zs1,zs2,zs3]
 refine tk 10 hSw1 ?_
 refine tk 11 hSw1 ?_
 refine tk 12 hSw1 ?_
 refine tk 13 hSw1 ?_
 refine tk 14 hSw1 ?_
 refine tk 15 hSw1 ?_
 refine tk 16 hSw1 ?_
 refine z1y (by kernel_rfl) ?_ _
 have d2:=F2.out.cell0 c2
 have d1:=F2.out.cell0 c1
 have hb2:=F2.out.blk HB.out (fun h=>h)
 have y1:=z2i 1 hb2
 have HB2:=zhd hb2
 clear hb2
 go_wp2
 go_ret
 have hf:=(Fr.refl (fun b=>b=rd) w2).setCell (p:=⟨rd,1,none⟩) (.inr rfl) (.int .i64 ((at_:Int)+((bytesB s).length:Int)))
 have e1:(w2.setCell ⟨rd,1,none⟩ (.int .i64 ((at_:Int)+((bytesB s).length:Int)))).heap[rd]?=some (.cells #[.slice A l.length c,.int .i64 ((at_:Int)+((bytesB s).length:Int)),.bool false] 244 (0,0)):=z2j (i:=1) HB2.out _
 refine⟨v2,rfl,O2.out.fr hf (fun b h e=>by have:w.drew.heap.size=w.heap.size:=rfl;omega),by simpa using e1,(F2.out.mono (fun _ _ h=>h.elim)).trans hf (fun _ _ h=>h)⟩
end
end Go.Proofs.YtidalepbkljkpaaGreat
namespace Go.H
open Go.RowKit
section
inductive ItemCells (F:Nat→Prop) (w:World):List Value→List KV→Prop
 |nil:ItemCells F w [] []
 |cons {x:KV} {kv vv:Value} {xs:List Value} {l:List KV}:BytesAt F w kv x.1→BytesAt F w vv x.2→ItemCells F w xs l→ItemCells F w (kv::vv::xs) (x::l)
namespace ItemCells
variable {F F' C : Nat → Prop} {w w' : World}
theorem fr (hf:Fr C w w') (hd:∀b,F b→¬C b):∀{xs:List Value} {l:List KV},ItemCells F w xs l→ItemCells F w' xs l
 |_,_,.nil=>.nil
 |_,_,.cons h1 h2 h3=>.cons (h1.fr hf hd) (h2.fr hf hd) (fr hf hd h3)
theorem fr0 {xs:List Value} {l:List KV} (h:ItemCells F w xs l) (hf:Fr C0 w w'):ItemCells F w' xs l:=h.fr hf (fun _ _ h=>h)
theorem mono (hF:∀b,F b→b<w.heap.size→F' b):∀{xs:List Value} {l:List KV},ItemCells F w xs l→ItemCells F' w xs l
 |_,_,.nil=>.nil
 |_,_,.cons h1 h2 h3=>.cons (h1.mono hF) (h2.mono hF) (mono hF h3)
theorem append {ys:List Value} {m:List KV} (k:ItemCells F w ys m):∀{xs:List Value} {l:List KV},ItemCells F w xs l→ItemCells F w (xs++ys) (l++m)
 |_,_,.nil=>k
 |_,_,.cons h1 h2 h3=>.cons h1 h2 (append k h3)
theorem length:∀{xs:List Value} {l:List KV},ItemCells F w xs l→xs.length=l.length*2
 |_,_,.nil=>rfl
 |_,_,.cons h1 h2 h3=>by have:=length h3;simp only[List.length_cons];omega
theorem take:∀{xs:List Value} {l:List KV} (i:Nat),ItemCells F w xs l→ItemCells F w (xs.take (i*2)) (l.take i)
 |_,_,i,.nil=>by simpa using nil
 |_,_,0,.cons h1 h2 h3=>by simpa using nil
 | _, _, i + 1, .cons h1 h2 h3 => by
   rw[show(i+1)*2=i*2+1+1 by omega]
   exact .cons h1 h2 (take i h3)
theorem drop:∀{xs:List Value} {l:List KV} (i:Nat),ItemCells F w xs l→ItemCells F w (xs.drop (i*2)) (l.drop i)
 |_,_,i,.nil=>by simpa using nil
 |_,_,0,.cons h1 h2 h3=>by simpa using cons h1 h2 h3
 | _, _, i + 1, .cons h1 h2 h3 => by
   rw[show(i+1)*2=i*2+1+1 by omega]
   exact drop i h3
theorem at_:∀{xs:List Value} {l:List KV} (i:Nat) (hi:i<l.length),ItemCells F w xs l→∃kv vv,xs[i*2]?=some kv∧xs[i*2+1]?=some vv∧BytesAt F w kv l[i].1∧BytesAt F w vv l[i].2
 |_,_,i,hi,.nil=>by simp at hi
 |_,_,0,hi,.cons h1 h2 h3=>⟨_,_,rfl,rfl,h1,h2⟩
 | _, _, i + 1, hi, .cons h1 h2 h3 => by
   have:=at_ i (by simpa using hi) h3
   rw[show(i+1)*2=i*2+1+1 by omega]
   exact this
theorem one:∀{xs:List Value} {l:List KV},ItemCells F w xs l→∀u∈xs,u.oneCell'=true
 |_,_,.nil,u,hu=>by simp at hu
 | _, _, .cons h1 h2 h3, u, hu => by
   obtain⟨_,_,rfl,_⟩:=h1
   obtain⟨_,_,rfl,_⟩:=h2
   rcases List.mem_cons.1 hu with rfl|hu
   · rfl
   · rcases List.mem_cons.1 hu with rfl|hu
     · rfl
     · exact one h3 u hu
theorem ofAll:∀{xs:List Value} {l:List KV},xs.length=l.length*2→(∀j (h:j<l.length),∃kv vv,xs[j*2]?=some kv∧xs[j*2+1]?=some vv∧BytesAt F w kv l[j].1∧BytesAt F w vv l[j].2)→ItemCells F w xs l
 |[],[],_,_=>.nil
 |[],x::l,h,_=>by simp at h
 |x::xs,[],h,_=>by simp at h
 |[x],y::l,h,_=>by simp only[List.length_cons,List.length_nil] at h;omega
 | x :: y :: xs, z :: l, h, hc => by
   obtain⟨kv,vv,a1,a2,a3,a4⟩:=hc 0 (by simp)
   simp at a1 a2
   subst a1;subst a2
   refine .cons a3 a4 (ofAll (by simp only[List.length_cons] at h;omega) fun j hj=>?_)
   have:=hc (j+1) (by simpa using hj)
   rw[show(j+1)*2=j*2+1+1 by omega] at this
   exact this
end ItemCells
theorem z7l {w:World} {g o:Nat}:∀(n:Nat),(∀j,j<n→∃u,w.cell? ⟨g,o+j,none⟩=some u)→∃xs:List Value,xs.length=n∧∀j u,xs[j]?=some u→w.cell? ⟨g,o+j,none⟩=some u
 |0,_=>⟨[],rfl,by simp⟩
 | n + 1, h => by
   obtain⟨xs,h1,h2⟩:=z7l n (fun j hj=>h j (by omega))
   obtain⟨u,hu⟩:=h n (by omega)
   refine⟨xs++[u],by simp[h1],fun j v hj=>?_⟩
   rw[List.getElem?_append] at hj
   split at hj
   · exact h2 j v hj
   · rename_i hl
     rw[h1] at hl hj
     have:j=n:=by
      rcases Nat.lt_or_ge j n with a|a
      · omega
      · have hlt:j-n<1:=by
         have:=List.getElem?_eq_some_iff.1 hj
         obtain⟨hh,_⟩:=this
         simpa using hh
        omega
     subst this
     simp at hj
     rw[←hj];exact hu
theorem ItemsAt.cells {F:Nat→Prop} {w:World} {v:Value} {l:List KV} (h:ItemsAt F w v l):∃xs,Row F w v l.length 2 xs∧ItemCells F w xs l:=by
 obtain⟨A,c,rfl,h1,h2,h3⟩:=h
 by_cases hl:l=[]
 · subst hl
   exact⟨[],⟨A,c,rfl,h1,h2,by simp,fun h=>absurd rfl h⟩,.nil⟩
 · obtain⟨g,o,rfl,hF,hc⟩:=h3 hl
   obtain⟨xs,x1,x2⟩:=z7l (w:=w) (g:=g) (o:=o) (l.length*2) (fun j hj=>by
    obtain⟨kv,vv,a1,a2,a3,a4⟩:=hc (j / 2) (by omega)
    by_cases he:j % 2=0
    · exact⟨kv,by rw[show o+j=o+j / 2*2 by omega];exact a1⟩
    · exact⟨vv,by rw[show o+j=o+j / 2*2+1 by omega];exact a2⟩)
   refine⟨xs,⟨_,c,rfl,h1,h2,by rw[x1],fun _=>⟨g,o,rfl,hF,x2⟩⟩,.ofAll x1 fun j hj=>?_⟩
   obtain⟨kv,vv,a1,a2,a3,a4⟩:=hc j hj
   have b1:=x2 (j*2) (xs[j*2]'(by omega)) (by simp)
   have b2:=x2 (j*2+1) (xs[j*2+1]'(by omega)) (by simp)
   rw[a1] at b1
   rw[←Nat.add_assoc,a2] at b2
   injection b1 with b1
   injection b2 with b2
   exact⟨kv,vv,by rw[b1];exact List.getElem?_eq_getElem _,by rw[b2];exact List.getElem?_eq_getElem _,a3,a4⟩
theorem ItemsAt.ofCells {F:Nat→Prop} {w:World} {v:Value} {l:List KV} {xs:List Value} (h:Row F w v l.length 2 xs) (hc:ItemCells F w xs l):ItemsAt F w v l:=by
 obtain⟨A,c,rfl,h1,h2,h3,h4⟩:=h
 refine⟨A,c,rfl,h1,h2,fun hl=>?_⟩
 obtain⟨g,o,rfl,hF,hx⟩:=h4 (by rintro rfl;exact hl (List.eq_nil_of_length_eq_zero (by have:([]:List Value).length=0:=rfl;omega)))
 refine⟨g,o,rfl,hF,fun j hj=>?_⟩
 obtain⟨kv,vv,a1,a2,a3,a4⟩:=hc.at_ j hj
 exact⟨kv,vv,hx _ _ a1,by rw[Nat.add_assoc];exact hx _ _ a2,a3,a4⟩
end
end Go.H
