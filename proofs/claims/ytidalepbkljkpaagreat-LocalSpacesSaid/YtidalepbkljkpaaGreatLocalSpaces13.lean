import Derived.Test.YtidalepbkljkpaaGreatLocalSpaces12
set_option linter.all false
namespace Go.Proofs.YtidalepbkljkpaaGreat
open Go.RowKit Go.H
set_option maxHeartbeats 1000000
set_option maxRecDepth 100000
section
theorem z7m (l:List KV) (ids:List Nat):(encB l ids).drop 1=uintB l.length++(itemsB l++idsB ids):=by
 rw[z7f];simp
theorem z7n (l:List KV) (k:Nat):itemsB l=itemsB (l.take k)++itemsB (l.drop k):=by
 simp only[itemsB,←List.flatten_append,←List.map_append,List.take_append_drop]
theorem z7o {l:List KV} {k:Nat} (h:k<l.length):itemsB (l.drop k)=bytesB l[k].1++(bytesB l[k].2++itemsB (l.drop (k+1))):=by
 rw[List.drop_eq_getElem_cons h];simp only[itemsB,List.map_cons,List.flatten_cons,List.append_assoc]
theorem z7p (l:List Nat) (k:Nat):idsB l=idsB (l.take k)++idsB (l.drop k):=by
 simp only[idsB,←List.flatten_append,←List.map_append,List.take_append_drop]
theorem z7q {l:List Nat} {k:Nat} (h:k<l.length):idsB (l.drop k)=uintB l[k]++idsB (l.drop (k+1)):=by
 rw[List.drop_eq_getElem_cons h];simp only[idsB,List.map_cons,List.flatten_cons]
theorem z7r {a b:Bs} {n:Nat} (h:n=a.length):(a++b).drop n=b:=by rw[h,List.drop_append_of_le_length (Nat.le_refl _),List.drop_of_length_le (Nat.le_refl _)];rfl
theorem z7s (l:List KV) (ids:List Nat) (k:Nat):(encB l ids).drop (1+(uintB l.length).length+(itemsB (l.take k)).length)=itemsB (l.drop k)++idsB ids:=by
 rw[z7f,z7n l k]
 rw[show ∀t,(t::uintB l.length++(itemsB (l.take k)++itemsB (l.drop k))++idsB ids:Bs)=(t::uintB l.length++itemsB (l.take k))++(itemsB (l.drop k)++idsB ids) from fun t=>by simp only[List.append_assoc,List.cons_append]]
 exact z7r (by simp only[List.length_append,List.length_cons];omega)
theorem z7t (l:List KV) (ids:List Nat) (k:Nat):(encB l ids).drop (1+(uintB l.length).length+(itemsB l).length+(idsB (ids.take k)).length)=idsB (ids.drop k):=by
 rw[z7f,z7p ids k]
 rw[show ∀t,(t::uintB l.length++itemsB l++(idsB (ids.take k)++idsB (ids.drop k)):Bs)=(t::uintB l.length++itemsB l++idsB (ids.take k))++idsB (ids.drop k) from fun t=>by simp only[List.append_assoc,List.cons_append]]
 exact z7r (by simp only[List.length_append,List.length_cons];omega)
theorem z7u (l:List KV) (ids:List Nat):(encB l ids).length=1+(uintB l.length).length+(itemsB l).length+(idsB ids).length:=by
 rw[z7f];simp only[List.length_append,List.length_cons];omega
theorem z7v {F:Nat→Prop} {w:World} {v:Value} {id:Nat} {l:List KV} (hv:BytesAt F w v (encB l [])) (h1:1≤l.length) (hl:l.length≤4) (hkv:∀x∈l,KVok x) :
 Calls Tryz.prog 143 #[.int .i64 (id:Int),v] w fun e w'=>Fr C0 w w'∧∃v' n g o,e=.returned (.tuple #[v',.bool true])∧w.heap.size≤n∧NodeAt (fun b=>w.heap.size≤b) w' n g o id l [] v':=by
 have hen:=z7u l []
 have hib:=z7c hkv
 have hu2:=z1b l.length
 have hid0:(idsB []).length=0:=rfl
 have hb0:(encB l [])[0]?=some 1:=rfl
 have hL:(encB l []).length≤8000:=by omega
 have hL1:0<(encB l []).length:=by omega
 obtain⟨A,c,rfl,hc1,hc2⟩:=hv.form
 unfold maxLen at hc2
 obtain⟨g,o,rfl,hFg,hcell⟩:=hv.at_ 0 hL1
 rw[show(encB l [])[0]=1 by rfl] at hcell
 have HV:=zhd (hv.mono (F':=fun b=>b<w.heap.size) (fun b _ h=>h))
 have HKV:=zhd hkv
 have HD1:=zhd (z7m l [])
 have HIT:=zhd (z7s l [])
 have HEL:=zhd hen
 have HIB:=zhd hib
 clear hv hkv hb0 hen hib
 have hx:((UInt8.toNat 1:Nat):Int)=1:=rfl
 simp only[bv,hx,Nat.add_zero] at hcell
 generalize hE:encB l []=E at *
 have hE0:((E.length:Int) == 0)=false:=beq_false_of_ne (by omega)
 go_enter Tryz.func143,Tryz.ntmps143
 go_wp2_with fail
 have HW1:=zhd (heap_alloc_new w (.cells #[.slice (some ⟨g,o,none⟩) E.length c,.int .i64 1,.bool false] 244))
 have F1:=zhd ((Fr.refl C0 w).alloc (.cells #[.slice (some ⟨g,o,none⟩) E.length c,.int .i64 1,.bool false] 244))
 refine(z7j (at_:=1) HW1.out (HV.out.fr0 F1.out) HD1.out (by omega) (by omega)).mono ?_
 rintro e w2 ⟨rfl,g2,f2⟩
 have F2:=zhd (F1.out.trans f2 (fun b hb e=>absurd e (by omega)))
 have G2:=zhd g2
 have hs2:=f2.size
 have hs2':w.heap.size+1≤w2.heap.size:=by simpa using hs2
 have hn1:¬((l.length:Int)<1):=by omega
 have hn4:¬((4:Int)<(l.length:Int)):=by omega
 clear f2 g2 hs2 HW1 F1
 go_wp2
 go_loopw [8,9,38] (fun lr _ i wr=>∃k:Nat,k≤l.length∧i=.int .i64 (k:Int)∧Hid (Fr C0 w wr)∧Hid (wr.heap[w.heap.size]?=some (.cells #[.slice (some ⟨g,o,none⟩) E.length c,.int .i64 ((1+(uintB l.length).length+(itemsB (l.take k)).length:Nat):Int),.bool false] 244 (0,0)))∧Hid (∃xs,wr.ownsRow (w.heap.size+1) 200 2 lr k xs∧ItemCells (fun b=>w.heap.size+1≤b∧¬lr.ownBlock=some b) wr xs (l.take k))) (fun _ _ i _=>l.length-(intOf i).toNat)
 case atStart=>exact⟨0,Nat.zero_le _,rfl,F2,zhd (by simpa [itemsB] using G2.out),zhd ⟨[],World.ownsRow_nil _ _ _ _,by simpa using ItemCells.nil⟩⟩
 case round=>
  obtain⟨k,hk,rfl,HF,HG,HX⟩:=hrel
  by_cases hlt:k<l.length
  · obtain⟨xs,o1,x1⟩:=HX.out
    have O1:=zhd o1
    have X1:=zhd x1
    have hx:=HKV.out l[k] (List.getElem_mem hlt)
    unfold KVok at hx
    have e1:=HIT.out k
    rw[z7o hlt,List.append_assoc] at e1
    have e2:E.drop (1+(uintB l.length).length+(itemsB (l.take k)).length+(bytesB l[k].1).length)=bytesB l[k].2++(itemsB (l.drop (k+1))++idsB []):=by
     rw[←List.drop_drop,e1,z7r rfl,List.append_assoc]
    have HC1:=zhd (z7k (most:=64) HG.out (HV.out.fr0 HF.out) e1 (by omega) (by omega) (by omega) (by omega))
    have E2:=zhd e2
    have hstep:Hid (1+(uintB l.length).length+(itemsB (l.take (k+1))).length=1+(uintB l.length).length+(itemsB (l.take k)).length+(bytesB l[k].1).length+(bytesB l[k].2).length):=zhd (by rw[z7b hlt];simp only[List.length_append];omega)
    have hszr:=HF.out.size
    have hrd:=(Array.getElem?_eq_some_iff.1 HG.out).1
    clear o1 x1 e1 e2
    generalize 1+(uintB l.length).length+(itemsB (l.take k)).length=P at *
    go_wp2_with fail
    refine HC1.out.mono ?_
    rintro e w3 ⟨v3,rfl,b3,g3,f3⟩
    have F3:=zhd f3
    have B3:=zhd b3
    have HC2:=zhd (z7k (most:=1800) g3 (HV.out.fr0 (HF.out.trans f3 (fun b hb e=>absurd e (by omega)))) E2.out (by omega) (by omega) (by omega) (by omega))
    have hs3:=f3.size
    clear HC1 b3 g3 f3
    go_wp2_with fail
    refine HC2.out.mono ?_
    rintro e w4 ⟨v4,rfl,b4,g4,f4⟩
    have F4:=zhd f4
    have B4:=zhd b4
    have B34:=zhd (B3.out.fr f4 (fun b h e=>by omega))
    have G4:=zhd g4
    have hs4:=f4.size
    clear HC2 b4 f4
    obtain⟨A3,c3,rfl,-⟩:=B3.out.form
    obtain⟨A4,c4,rfl,-⟩:=B4.out.form
    have hne:((l[k].1.length:Int) == 0)=false:=beq_false_of_ne (by omega)
    have hsz4:w.heap.size<w4.heap.size:=(Array.getElem?_eq_some_iff.1 g4).1
    have g5:(w4.alloc (.cells #[.slice A3 l[k].1.length c3,.slice A4 l[k].2.length c4] 200)).heap[w.heap.size]?=_:=((Fr.refl C0 w4).alloc (.cells #[.slice A3 l[k].1.length c3,.slice A4 l[k].2.length c4] 200)).blk g4 (fun h=>h)
    have q2:=z2k g5 2 rfl
    have z2:=z2i 2 g5
    have F5:=zhd (((Fr.refl (fun b=>b=w.heap.size) w4).setCell (p:=⟨w.heap.size,2,none⟩) (.inr rfl) (.bool false)).alloc (.cells #[.slice A3 l[k].1.length c3,.slice A4 l[k].2.length c4] 200))
    have G5:Hid (((w4.setCell ⟨w.heap.size,2,none⟩ (.bool false)).alloc (.cells #[.slice A3 l[k].1.length c3,.slice A4 l[k].2.length c4] 200)).heap[w.heap.size]?=some (.cells #[.slice (some ⟨g,o,none⟩) E.length c,.int .i64 ((P+(bytesB l[k].1).length+(bytesB l[k].2).length:Nat):Int),.bool false] 244 (0,0))):=zhd (((Fr.refl C0 _).alloc _).blk (z2j (i:=2) G4.out (.bool false)) (fun h=>h))
    have F34:=zhd ((F3.out.trans F4.out (fun _ _ h=>h)).trans F5.out (fun _ _ h=>h))
    have hs5:=F34.out.size
    clear g5
    clear g4
    go_wp2_with (at_builtin;go_must (refine z0l z2p rfl _ _ rfl (v:=u8) (xv:=.slice (some ⟨w4.heap.size+1,0,none⟩) 1 1) rfl rfl (z0m O1.out ((F34.out.alloc (.cells #[.slice A3 l[k].1.length c3,.slice A4 l[k].2.length c4] 200))) (fun b e h=>by have:=(O1.out.lt b e).1;omega)) (Row.ofBlock (F:=fun b=>b=w4.heap.size+1) (by simpa using heap_alloc_new ((w4.setCell ⟨w.heap.size,2,none⟩ (.bool false)).alloc (.cells #[.slice A3 l[k].1.length c3,.slice A4 l[k].2.length c4] 200)) (.cells #[.slice A3 l[k].1.length c3,.slice A4 l[k].2.length c4] 200)) rfl (by unfold maxLen;omega) rfl) (by simp[Value.oneCell']) (by unfold maxLen;omega) (by omega) (by simp;omega) ?_);intro v6 w6 o6 f6 k6 nil6)
    have hob:=fun b e=>O1.out.lt b e
    have hW:((w4.setCell ⟨w.heap.size,2,none⟩ (.bool false)).alloc (.cells #[.slice A3 l[k].1.length c3,.slice A4 l[k].2.length c4] 200)).heap.size=w4.heap.size+1:=by simp[go_sem]
    have F4W:=zhd (F5.out.alloc (.cells #[.slice A3 l[k].1.length c3,.slice A4 l[k].2.length c4] 200))
    have Y1:=((X1.out.mono (F':=fun b=>w.heap.size+1≤b∧¬u8.ownBlock=some b∧b<wr.heap.size) (fun b h hl=>⟨h.1,h.2,hl⟩)).fr (F34.out.alloc (.cells #[.slice A3 l[k].1.length c3,.slice A4 l[k].2.length c4] 200)) (fun b h e=>by omega)).fr f6 (fun b h e=>h.2.1 e)
    have Y3:=((B34.out.mono (F':=fun b=>wr.heap.size≤b∧b<w4.heap.size) (fun b h hl=>⟨h,hl⟩)).fr F4W.out (fun b h e=>by omega)).fr f6 (fun b h e=>by have:=(hob b e).2;omega)
    have Y4:=((B4.out.mono (F':=fun b=>wr.heap.size≤b∧b<w4.heap.size) (fun b h hl=>⟨by omega,hl⟩)).fr F4W.out (fun b h e=>by omega)).fr f6 (fun b h e=>by have:=(hob b e).2;omega)
    have k6':∀b,b<w4.heap.size→v6.ownBlock=some b→u8.ownBlock=some b:=fun b hb e=>(k6 b e).elim (fun h=>h) (fun h=>by simp[go_sem] at h;omega)
    refine⟨⟨k+1,by omega,by go_num,?_,?_,?_⟩,?_⟩
    · exact zhd (((HF.out.trans F34.out (fun b hb e=>by omega)).alloc _).trans f6 (fun b hb e=>by have:=(hob b e).1;omega))
    · refine zhd ?_
      rw[hstep.out]
      exact f6.blk (((Fr.refl C0 _).alloc _).blk G5.out (fun h=>h)) (fun e=>by have:=(hob _ e).1;omega)
    · refine zhd ⟨_,o6,?_⟩
      rw[List.take_succ_eq_append_getElem hlt]
      refine .append (.cons (Y3.mono fun b h _=>⟨by omega,fun e=>?_⟩) (Y4.mono fun b h _=>⟨by omega,fun e=>?_⟩) .nil) (Y1.mono fun b h _=>⟨h.1,fun e=>h.2.1 (k6' b (by omega) e)⟩)
      · have:=(hob b (k6' b (by omega) e)).2;omega
      · have:=(hob b (k6' b (by omega) e)).2;omega
    · simp[intOf];omega
  · obtain rfl:k=l.length:=by omega
    rw[List.take_length] at HG HX
    obtain⟨xs,o1,x1⟩:=HX.out
    have hcell2:=HF.out.cell0 hcell
    have c1:=z2k HG.out 1 rfl
    have c2:=z2k HG.out 2 rfl
    have O1:=zhd o1
    have X1:=zhd x1
    obtain⟨A',c',rfl,-⟩:=z0o o1
    have hend:(((1+(uintB l.length).length+(itemsB l).length:Nat):Int) != (E.length:Int))=false:=by
     have:=HEL.out
     rw[bne_eq_false_iff_eq];omega
    have ew:IntKind.i64.wrap ((l.length:Int)+1)=((l.length+1:Nat):Int):=by rw[IntWalk.i64_in _ (by omega)];omega
    generalize ((1+(uintB l.length).length+(itemsB l).length:Nat):Int)=Pe at *
    clear o1 x1 HX
    go_wp2
    go_loopw [10,65] (fun kv i wr2=>∃j:Nat,j≤l.length+1∧kv=.slice none 0 0∧i=.int .i64 (j:Int)∧wr2=wr) (fun _ i _=>l.length+1-(intOf i).toNat)
    case atStart=>exact⟨0,Nat.zero_le _,rfl,rfl,rfl⟩
    case round=>
     obtain⟨j,hj,rfl,rfl,rfl⟩:=hrel
     by_cases hlt2:j<l.length+1
     · have hlt3:(j:Int)<(l.length:Int)+1:=by omega
       go_wp2
       go_roundw
       case rel=>exact⟨j+1,by omega,rfl,by go_num,by trivial⟩
       case measure=>simp[intOf];omega
     · have hlt3:¬(j:Int)<(l.length:Int)+1:=by omega
       go_wp2
       go_ret2
       have hsz:=HF.out.size
       have hA:=(Fr.refl C0 wr).alloc (.cells #[.int .i64 (id:Int),.slice A' l.length c'] 223)
       have hnew:=heap_alloc_new wr (.cells #[.int .i64 (id:Int),.slice A' l.length c'] 223)
       refine⟨HF.out.alloc _,_,rfl,wr.heap.size,by omega,0,0,_,z2k hnew 0 rfl,z2k hnew 1 rfl,?_,.inl ⟨rfl,rfl⟩⟩
       exact(ItemsAt.ofCells (F:=fun b=>w.heap.size≤b) (Row.ofOwn O1.out (fun b e=>by have:=(O1.out.lt b e).1;omega)) (X1.out.mono fun b h _=>by omega)).fr0 hA
theorem z7w {F:Nat→Prop} {w:World} {v:Value} {id:Nat} {l:List KV} {ids:List Nat} (hids:ids.length=l.length+1) (hidb:∀k∈ids,k<16384) (hv:BytesAt F w v (encB l ids)) (h1:1≤l.length) (hl:l.length≤4) (hkv:∀x∈l,KVok x) :
 Calls Tryz.prog 143 #[.int .i64 (id:Int),v] w fun e w'=>Fr C0 w w'∧∃v' n g o,e=.returned (.tuple #[v',.bool true])∧w.heap.size≤n∧w.heap.size≤g∧NodeAt (fun b=>w.heap.size≤b) w' n g o id l (ids.map wPage) v':=by
 have hen:=z7u l ids
 have hib:=z7c hkv
 have hu2:=z1b l.length
 have hid0:=z7e ids
 have hids0:ids≠[]:=fun e=>by rw[e] at hids;simp at hids
 have htag:∃E',encB l ids=2::E':=⟨_,by rw[z7f,if_neg hids0];rfl⟩
 obtain⟨E',htag⟩:=htag
 have hL:(encB l ids).length≤8000:=by omega
 have hL1:0<(encB l ids).length:=by omega
 obtain⟨A,c,rfl,hc1,hc2⟩:=hv.form
 unfold maxLen at hc2
 obtain⟨g,o,rfl,hFg,hcell⟩:=hv.at_ 0 hL1
 rw[show(encB l ids)[0]=2 by simp[htag]] at hcell
 have HV:=zhd (hv.mono (F':=fun b=>b<w.heap.size) (fun b _ h=>h))
 have HKV:=zhd hkv
 have HD1:=zhd (z7m l ids)
 have HIT:=zhd (z7s l ids)
 have HEL:=zhd hen
 have HIB:=zhd hib
 have HID:=zhd (z7t l ids)
 have HIDB:=zhd hidb
 clear hv hkv hen hib htag E' hidb
 have hx:((UInt8.toNat 2:Nat):Int)=2:=rfl
 simp only[bv,hx,Nat.add_zero] at hcell
 generalize hE:encB l ids=E at *
 have hE0:((E.length:Int) == 0)=false:=beq_false_of_ne (by omega)
 go_enter Tryz.func143,Tryz.ntmps143
 go_wp2_with fail
 have HW1:=zhd (heap_alloc_new w (.cells #[.slice (some ⟨g,o,none⟩) E.length c,.int .i64 1,.bool false] 244))
 have F1:=zhd ((Fr.refl C0 w).alloc (.cells #[.slice (some ⟨g,o,none⟩) E.length c,.int .i64 1,.bool false] 244))
 refine(z7j (at_:=1) HW1.out (HV.out.fr0 F1.out) HD1.out (by omega) (by omega)).mono ?_
 rintro e w2 ⟨rfl,g2,f2⟩
 have F2:=zhd (F1.out.trans f2 (fun b hb e=>absurd e (by omega)))
 have G2:=zhd g2
 have hs2:=f2.size
 have hs2':w.heap.size+1≤w2.heap.size:=by simpa using hs2
 have hn1:¬((l.length:Int)<1):=by omega
 have hn4:¬((4:Int)<(l.length:Int)):=by omega
 clear f2 g2 hs2 HW1 F1
 go_wp2
 go_loopw [8,9,38] (fun lr _ i wr=>∃k:Nat,k≤l.length∧i=.int .i64 (k:Int)∧Hid (Fr C0 w wr)∧Hid (wr.heap[w.heap.size]?=some (.cells #[.slice (some ⟨g,o,none⟩) E.length c,.int .i64 ((1+(uintB l.length).length+(itemsB (l.take k)).length:Nat):Int),.bool false] 244 (0,0)))∧Hid (∃xs,wr.ownsRow (w.heap.size+1) 200 2 lr k xs∧ItemCells (fun b=>w.heap.size+1≤b∧¬lr.ownBlock=some b) wr xs (l.take k))) (fun _ _ i _=>l.length-(intOf i).toNat)
 case atStart=>exact⟨0,Nat.zero_le _,rfl,F2,zhd (by simpa [itemsB] using G2.out),zhd ⟨[],World.ownsRow_nil _ _ _ _,by simpa using ItemCells.nil⟩⟩
 case round=>
  obtain⟨k,hk,rfl,HF,HG,HX⟩:=hrel
  by_cases hlt:k<l.length
  · obtain⟨xs,o1,x1⟩:=HX.out
    have O1:=zhd o1
    have X1:=zhd x1
    have hx:=HKV.out l[k] (List.getElem_mem hlt)
    unfold KVok at hx
    have e1:=HIT.out k
    rw[z7o hlt,List.append_assoc] at e1
    have e2:E.drop (1+(uintB l.length).length+(itemsB (l.take k)).length+(bytesB l[k].1).length)=bytesB l[k].2++(itemsB (l.drop (k+1))++idsB ids):=by
     rw[←List.drop_drop,e1,z7r rfl,List.append_assoc]
    have HC1:=zhd (z7k (most:=64) HG.out (HV.out.fr0 HF.out) e1 (by omega) (by omega) (by omega) (by omega))
    have E2:=zhd e2
    have hstep:Hid (1+(uintB l.length).length+(itemsB (l.take (k+1))).length=1+(uintB l.length).length+(itemsB (l.take k)).length+(bytesB l[k].1).length+(bytesB l[k].2).length):=zhd (by rw[z7b hlt];simp only[List.length_append];omega)
    have hszr:=HF.out.size
    have hrd:=(Array.getElem?_eq_some_iff.1 HG.out).1
    clear o1 x1 e1 e2
    generalize 1+(uintB l.length).length+(itemsB (l.take k)).length=P at *
    go_wp2_with fail
    refine HC1.out.mono ?_
    rintro e w3 ⟨v3,rfl,b3,g3,f3⟩
    have F3:=zhd f3
    have B3:=zhd b3
    have HC2:=zhd (z7k (most:=1800) g3 (HV.out.fr0 (HF.out.trans f3 (fun b hb e=>absurd e (by omega)))) E2.out (by omega) (by omega) (by omega) (by omega))
    have hs3:=f3.size
    clear HC1 b3 g3 f3
    go_wp2_with fail
    refine HC2.out.mono ?_
    rintro e w4 ⟨v4,rfl,b4,g4,f4⟩
    have F4:=zhd f4
    have B4:=zhd b4
    have B34:=zhd (B3.out.fr f4 (fun b h e=>by omega))
    have G4:=zhd g4
    have hs4:=f4.size
    clear HC2 b4 f4
    obtain⟨A3,c3,rfl,-⟩:=B3.out.form
    obtain⟨A4,c4,rfl,-⟩:=B4.out.form
    have hne:((l[k].1.length:Int) == 0)=false:=beq_false_of_ne (by omega)
    have hsz4:w.heap.size<w4.heap.size:=(Array.getElem?_eq_some_iff.1 g4).1
    have g5:(w4.alloc (.cells #[.slice A3 l[k].1.length c3,.slice A4 l[k].2.length c4] 200)).heap[w.heap.size]?=_:=((Fr.refl C0 w4).alloc (.cells #[.slice A3 l[k].1.length c3,.slice A4 l[k].2.length c4] 200)).blk g4 (fun h=>h)
    have q2:=z2k g5 2 rfl
    have z2:=z2i 2 g5
    have F5:=zhd (((Fr.refl (fun b=>b=w.heap.size) w4).setCell (p:=⟨w.heap.size,2,none⟩) (.inr rfl) (.bool false)).alloc (.cells #[.slice A3 l[k].1.length c3,.slice A4 l[k].2.length c4] 200))
    have G5:Hid (((w4.setCell ⟨w.heap.size,2,none⟩ (.bool false)).alloc (.cells #[.slice A3 l[k].1.length c3,.slice A4 l[k].2.length c4] 200)).heap[w.heap.size]?=some (.cells #[.slice (some ⟨g,o,none⟩) E.length c,.int .i64 ((P+(bytesB l[k].1).length+(bytesB l[k].2).length:Nat):Int),.bool false] 244 (0,0))):=zhd (((Fr.refl C0 _).alloc _).blk (z2j (i:=2) G4.out (.bool false)) (fun h=>h))
    have F34:=zhd ((F3.out.trans F4.out (fun _ _ h=>h)).trans F5.out (fun _ _ h=>h))
    have hs5:=F34.out.size
    clear g5
    clear g4
    go_wp2_with (at_builtin;go_must (refine z0l z2p rfl _ _ rfl (v:=u8) (xv:=.slice (some ⟨w4.heap.size+1,0,none⟩) 1 1) rfl rfl (z0m O1.out ((F34.out.alloc (.cells #[.slice A3 l[k].1.length c3,.slice A4 l[k].2.length c4] 200))) (fun b e h=>by have:=(O1.out.lt b e).1;omega)) (Row.ofBlock (F:=fun b=>b=w4.heap.size+1) (by simpa using heap_alloc_new ((w4.setCell ⟨w.heap.size,2,none⟩ (.bool false)).alloc (.cells #[.slice A3 l[k].1.length c3,.slice A4 l[k].2.length c4] 200)) (.cells #[.slice A3 l[k].1.length c3,.slice A4 l[k].2.length c4] 200)) rfl (by unfold maxLen;omega) rfl) (by simp[Value.oneCell']) (by unfold maxLen;omega) (by omega) (by simp;omega) ?_);intro v6 w6 o6 f6 k6 nil6)
    have hob:=fun b e=>O1.out.lt b e
    have hW:((w4.setCell ⟨w.heap.size,2,none⟩ (.bool false)).alloc (.cells #[.slice A3 l[k].1.length c3,.slice A4 l[k].2.length c4] 200)).heap.size=w4.heap.size+1:=by simp[go_sem]
    have F4W:=zhd (F5.out.alloc (.cells #[.slice A3 l[k].1.length c3,.slice A4 l[k].2.length c4] 200))
    have Y1:=((X1.out.mono (F':=fun b=>w.heap.size+1≤b∧¬u8.ownBlock=some b∧b<wr.heap.size) (fun b h hl=>⟨h.1,h.2,hl⟩)).fr (F34.out.alloc (.cells #[.slice A3 l[k].1.length c3,.slice A4 l[k].2.length c4] 200)) (fun b h e=>by omega)).fr f6 (fun b h e=>h.2.1 e)
    have Y3:=((B34.out.mono (F':=fun b=>wr.heap.size≤b∧b<w4.heap.size) (fun b h hl=>⟨h,hl⟩)).fr F4W.out (fun b h e=>by omega)).fr f6 (fun b h e=>by have:=(hob b e).2;omega)
    have Y4:=((B4.out.mono (F':=fun b=>wr.heap.size≤b∧b<w4.heap.size) (fun b h hl=>⟨by omega,hl⟩)).fr F4W.out (fun b h e=>by omega)).fr f6 (fun b h e=>by have:=(hob b e).2;omega)
    have k6':∀b,b<w4.heap.size→v6.ownBlock=some b→u8.ownBlock=some b:=fun b hb e=>(k6 b e).elim (fun h=>h) (fun h=>by simp[go_sem] at h;omega)
    refine⟨⟨k+1,by omega,by go_num,?_,?_,?_⟩,?_⟩
    · exact zhd (((HF.out.trans F34.out (fun b hb e=>by omega)).alloc _).trans f6 (fun b hb e=>by have:=(hob b e).1;omega))
    · refine zhd ?_
      rw[hstep.out]
      exact f6.blk (((Fr.refl C0 _).alloc _).blk G5.out (fun h=>h)) (fun e=>by have:=(hob _ e).1;omega)
    · refine zhd ⟨_,o6,?_⟩
      rw[List.take_succ_eq_append_getElem hlt]
      refine .append (.cons (Y3.mono fun b h _=>⟨by omega,fun e=>?_⟩) (Y4.mono fun b h _=>⟨by omega,fun e=>?_⟩) .nil) (Y1.mono fun b h _=>⟨h.1,fun e=>h.2.1 (k6' b (by omega) e)⟩)
      · have:=(hob b (k6' b (by omega) e)).2;omega
      · have:=(hob b (k6' b (by omega) e)).2;omega
    · simp[intOf];omega
  · obtain rfl:k=l.length:=by omega
    rw[List.take_length] at HG HX
    obtain⟨xs,o1,x1⟩:=HX.out
    have hcell2:=HF.out.cell0 hcell
    have HG0:=HG
    have HF0:=HF
    have hwlt:=(Array.getElem?_eq_some_iff.1 HG.out).1
    have O1:=zhd o1
    have X1:=zhd x1
    obtain⟨A',c',rfl,-⟩:=z0o o1
    have ew:IntKind.i64.wrap ((l.length:Int)+1)=((l.length+1:Nat):Int):=by rw[IntWalk.i64_in _ (by omega)];omega
    generalize 1+(uintB l.length).length+(itemsB l).length=Pe at *
    clear o1 x1 HX HF HG
    go_wp2
    go_loopw [10,65] (fun kv i wr2=>∃j:Nat,j≤l.length+1∧i=.int .i64 (j:Int)∧Hid (Fr C0 w wr2)∧Hid (Fr (fun b=>b=w.heap.size) wr wr2)∧Hid (wr2.heap[w.heap.size]?=some (.cells #[.slice (some ⟨g,o,none⟩) E.length c,.int .i64 ((Pe+(idsB (ids.take j)).length:Nat):Int),.bool false] 244 (0,0)))∧Hid (wr2.ownsRow wr.heap.size 20 1 kv j ((ids.take j).map wPage))) (fun _ i _=>l.length+1-(intOf i).toNat)
    case atStart=>exact⟨0,Nat.zero_le _,rfl,HF0,zhd (Fr.refl _ _),zhd (by simpa [idsB] using HG0.out),zhd (World.ownsRow_nil _ _ _ _)⟩
    case round=>
     obtain⟨j,hj,rfl,HF,HFR,HG,HK⟩:=hrel
     by_cases hlt2:j<l.length+1
     · have hlt3:(j:Int)<(l.length:Int)+1:=by omega
       have hlt4:j<ids.length:=by omega
       have hcell3:=HF.out.cell0 hcell
       have hib:=HIDB.out _ (List.getElem_mem hlt4)
       have e1:=HID.out j
       rw[z7q hlt4] at e1
       have HC1:=zhd (z7j HG.out (HV.out.fr0 HF.out) e1 (by omega) (by omega))
       have hstep:Hid (Pe+(idsB (ids.take (j+1))).length=Pe+(idsB (ids.take j)).length+(uintB ids[j]).length):=zhd (by rw[z7d hlt4];simp only[List.length_append];omega)
       have hszr:=HF.out.size
       have hszr2:=HFR.out.size
       generalize Pe+(idsB (ids.take j)).length=P at *
       clear e1
       go_wp2_with fail
       refine HC1.out.mono ?_
       rintro e w3 ⟨rfl,g3,f3⟩
       have G3:=zhd g3
       have F3:=zhd f3
       have hs3:=f3.size
       clear g3 f3 HC1
       go_wp2_with (at_builtin;go_must (refine z0l z2q rfl _ _ rfl (v:=u10) (xv:=.slice (some ⟨w3.heap.size,0,none⟩) 1 1) rfl rfl (z0m HK.out (F3.out.alloc (.cells #[wPage ids[j]] 20)) (fun b e h=>by have:=(HK.out.lt b e).1;omega)) (Row.ofBlock (F:=fun b=>b=w3.heap.size) (heap_alloc_new _ _) rfl (by unfold maxLen;omega) rfl) (by simp[Value.oneCell']) (by unfold maxLen;omega) (by omega) (by simp;omega) ?_);intro v6 w6 o6 f6 k6 nil6)
       have hob:=fun b e=>HK.out.lt b e
       have F3W:=F3.out.alloc (.cells #[wPage ids[j]] 20)
       refine⟨⟨j+1,by omega,by go_num,?_,?_,?_,?_⟩,?_⟩
       · exact zhd ((HF.out.trans F3W (fun b hb e=>by omega)).trans f6 (fun b hb e=>by have:=(hob b e).1;omega))
       · exact zhd ((HFR.out.trans F3W (fun b hb e=>e)).trans f6 (fun b hb e=>by have:=(hob b e).1;omega))
       · refine zhd ?_
         rw[hstep.out]
         exact f6.blk (((Fr.refl C0 w3).alloc _).blk G3.out (fun h=>h)) (fun e=>by have:=(hob _ e).1;omega)
       · refine zhd ?_
         rw[List.take_succ_eq_append_getElem hlt4,List.map_append]
         exact o6
       · simp[intOf];omega
     · obtain rfl:j=l.length+1:=by omega
       rw[←hids,List.take_length] at HG HK
       have c1:=z2k HG.out 1 rfl
       have c2:=z2k HG.out 2 rfl
       have hcell3:=HF.out.cell0 hcell
       have hend:(((Pe+(idsB ids).length:Nat):Int) != (E.length:Int))=false:=by
        have:=HEL.out
        rw[bne_eq_false_iff_eq];omega
       generalize ((Pe+(idsB ids).length:Nat):Int)=Pf at *
       have hlt3:¬(((l.length+1:Nat):Int)<(l.length:Int)+1):=by omega
       have OK:=zhd HK.out
       obtain⟨A2,c2',rfl,-⟩:=z0o HK.out
       go_wp2
       go_ret2
       have hsz:=HF.out.size
       have hkl:(ids.map wPage).length=l.length+1:=by simp[hids]
       have hkne:ids.map wPage≠[]:=by simpa using hids0
       obtain⟨_,_,he,hr1,hr2⟩:=(Row.ofOwn OK.out (F:=fun b=>True) (fun _ _=>trivial)).form
       injection he with e1 e2 e3
       subst e3
       obtain⟨g2,o2,rfl,_,hkc⟩:=(Row.ofOwn OK.out (F:=fun b=>True) (fun _ _=>trivial)).cells (i:=0) (u:=wPage ids[0]) (by rw[List.getElem?_map,List.getElem?_eq_getElem (by omega)];rfl)
       have hA:=(Fr.refl C0 wr).alloc (.cells #[.int .i64 (id:Int),.slice A' l.length c',.slice (some ⟨g2,o2,none⟩) (l.length+1) c2'] 198)
       have hnew:=heap_alloc_new wr (.cells #[.int .i64 (id:Int),.slice A' l.length c',.slice (some ⟨g2,o2,none⟩) (l.length+1) c2'] 198)
       have hs0:=HF0.out.size
       have hg2:w.heap.size≤g2:=by have:=(OK.out.lt g2 rfl).1;omega
       refine⟨HF.out.alloc _,_,rfl,wr.heap.size,by omega,g2,hg2,o2,_,z2k hnew 0 rfl,z2k hnew 1 rfl,?_,.inr ⟨hkne,rfl,c2',by rw[hkl];exact z2k hnew 2 rfl,by rw[hkl];omega,hr2,fun i u hu=>hA.cell0 (hkc i u hu)⟩⟩
       exact((ItemsAt.ofCells (F:=fun b=>w.heap.size≤b∧b≠w.heap.size) (Row.ofOwn O1.out (fun b e=>by have:=(O1.out.lt b e).1;omega)) (X1.out.mono fun b h _=>by omega)).fr HFR.out (fun b h e=>h.2 e)).fr0 hA |>.mono (fun b h _=>h.1)
end
end Go.Proofs.YtidalepbkljkpaaGreat
