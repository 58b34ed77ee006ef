import Derived.Test.YtidalepbkljkpaaGreatDraftSame20
import Derived.Test.YtidalepbkljkpaaGreatDraftSame15
import Derived.Test.YtidalepbkljkpaaGreatDraftSame10
import Derived.Test.YtidalepbkljkpaaGreatDraftSame19
import Derived.Test.YtidalepbkljkpaaGreatDraftSame16
import Derived.WalkMore
import Derived.Laws.IdiomStrings
set_option linter.all false
namespace Go.HS
open Go.RowKit Go.H
section
inductive MapV (F:Nat→Prop) (w:World):List (ByteArray×Value)→List KV→Prop
 |nil:MapV F w [] []
 |cons {k v:List UInt8} {u:Value} {A:List (ByteArray×Value)} {L:List KV}:BytesAt F w u v→MapV F w A L→MapV F w ((⟨k.toArray⟩,u)::A) ((k,v)::L)
theorem MapV.fr {F C:Nat→Prop} {w w':World} (hf:Fr C w w') (hd:∀b,F b→¬C b):∀{A:List (ByteArray×Value)} {L:List KV},MapV F w A L→MapV F w' A L
 |_,_,.nil=>.nil
 |_,_,.cons h1 h2=>.cons (h1.fr hf hd) (h2.fr hf hd)
theorem zau {a b:List UInt8}:((⟨a.toArray⟩:ByteArray)=⟨b.toArray⟩)↔a=b:=by
 constructor
 · intro h
   injection h with h
   injection h
 · rintro rfl;rfl
theorem MapV.set {F:Nat→Prop} {w:World} {k v:List UInt8} {u:Value} (hu:BytesAt F w u v):∀{A:List (ByteArray×Value)} {L:List KV},MapV F w A L→MapV F w (aset ⟨k.toArray⟩ u A) (setD k v L)
 |_,_,.nil=>.cons hu .nil
 | _, _, .cons (k := k') h1 h2 => by
   by_cases e:k'=k
   · subst e
     simp only[aset,setD,if_pos]
     exact .cons hu h2
   · have e2:¬((⟨k'.toArray⟩:ByteArray)=⟨k.toArray⟩):=fun h=>e (zau.1 h)
     simp only[aset,setD,if_neg e,if_neg e2]
     exact .cons h1 (MapV.set hu h2)
theorem MapV.del {F:Nat→Prop} {w:World} {k:List UInt8}:∀{A:List (ByteArray×Value)} {L:List KV},MapV F w A L→MapV F w (mdel A ⟨k.toArray⟩) (delD k L)
 |_,_,.nil=>.nil
 | _, _, .cons (k := k') h1 h2 => by
   have ih:=MapV.del (k:=k) h2
   unfold mdel delD at *
   by_cases e:k'=k
   · subst e
     simpa using ih
   · have e2:¬((⟨k'.toArray⟩:ByteArray)=⟨k.toArray⟩):=fun h=>e (zau.1 h)
     simp only[List.filter_cons,ne_eq,e,e2,not_false_eq_true,decide_true,if_true]
     exact .cons h1 ih
end
end Go.HS
namespace Go.Proofs.YtidalepbkljkpaaGreat
open Go.RowKit Go.H Go.Shelf Go.Sort
set_option maxHeartbeats 1000000
set_option maxRecDepth 100000
section
@[go_sem] theorem zav (w : World) : (Instr.makeMap 140 none).run Tryz.prog w = .ok (.map (some w.heap.size)) (w.alloc (.map #[] 0)) := by kernel_rfl
theorem zaw (w:World) (k:Bs) (hk:k.length≤100000):∃u w',(convert 9 40 (.string ⟨k.toArray⟩)).run Tryz.prog w=.ok u w'∧Fr C0 w w'∧BytesAt (fun b=>w.heap.size≤b) w' u k:=by
 obtain⟨g,hg⟩:∃g,g=grownCap w (⟨k.toArray⟩:ByteArray).size 0 5:=⟨_,rfl⟩
 have h0:(⟨k.toArray⟩:ByteArray).size=k.length:=rfl
 have h1:(⟨k.toArray⟩:ByteArray).size≤g:=by rw[hg];exact grownCap_ge _ _ _ _
 have h2:g≤maxLen:=by rw[hg];exact grownCap_le_maxLen _ _ _ _ (by rw[h0];unfold maxLen;omega)
 have hc:∀j (h:j<k.length),(bytesRow ⟨k.toArray⟩ g)[j]?=some (bv k[j]):=fun j h=>by
  unfold bytesRow
  simp[Array.getElem?_append,h,bv]
 have hrun:=Go.run_bytes_of_string (P:=Tryz.prog) w 9 40 5 ⟨k.toArray⟩ Tryz.underlying9 Tryz.underlying40 Tryz.underlying5
 rw[←hg] at hrun
 refine⟨_,_,hrun,(Fr.refl C0 w).drew.alloc _,some ⟨w.heap.size,0,none⟩,g,rfl,h1,h2,fun _=>⟨w.heap.size,0,rfl,Nat.le_refl _,fun j h=>?_⟩⟩
 have hb:=heap_alloc_new w.drew (.cells (bytesRow ⟨k.toArray⟩ g) 5 ((bytesRow ⟨k.toArray⟩ g).size,(bytesRow ⟨k.toArray⟩ g).size+1))
 rw[Nat.zero_add]
 exact z1u hb j (hc j h)
theorem zax {F:Nat→Prop} {w:World}:∀{A:List (ByteArray×Value)} {D:List KV} (i:Nat) (hi:i<D.length),HS.MapV F w A D→∃u,A[i]?=some (⟨D[i].1.toArray⟩,u)∧BytesAt F w u D[i].2
 |_,_,i,hi,.nil=>by simp at hi
 |_,_,0,hi,.cons h1 h2=>⟨_,rfl,h1⟩
 |_,_,i+1,hi,.cons h1 h2=>by simpa using zax i (by simpa using hi) h2
theorem zay {F:Nat→Prop} {w:World}:∀{A:List (ByteArray×Value)} {D:List KV},HS.MapV F w A D→A.length=D.length
 |_,_,.nil=>rfl
 |_,_,.cons h1 h2=>by simp[zay h2]
theorem zaz {es:Array MapEntry} {ck:Nat} {A:List (ByteArray×Value)} {D:List KV} {F:Nat→Prop} {w:World} (he:HS.Ent es ck A) (hv:HS.MapV F w A D):es.toList.length=D.length:=by
 have:=congrArg List.length he.kv
 simp only[List.length_map] at this
 rw[this,zay hv]
theorem zb0 {es:Array MapEntry} {ck:Nat} {A:List (ByteArray×Value)} {D:List KV} {F:Nat→Prop} {w:World} (he:HS.Ent es ck A) (hv:HS.MapV F w A D) {e:MapEntry} (hm:e∈es.toList):∃i,∃hi:i<D.length,es.toList[i]?=some e∧e.key=.string ⟨D[i].1.toArray⟩∧BytesAt F w e.val D[i].2:=by
 obtain⟨i,hi,rfl⟩:=List.getElem_of_mem hm
 have hl:=zaz he hv
 refine⟨i,by omega,List.getElem?_eq_getElem hi,?_⟩
 obtain⟨u,h1,h2⟩:=zax i (by omega) hv
 have h3:(es.toList.map (fun e=>(e.key,e.val)))[i]?=(A.map HS.kvp)[i]?:=by rw[he.kv]
 rw[List.getElem?_map,List.getElem?_map,h1,List.getElem?_eq_getElem hi] at h3
 simp only[Option.map_some,Option.some.injEq,HS.kvp,Prod.mk.injEq] at h3
 exact⟨h3.1,by rw[h3.2];exact h2⟩
def pairI (s:Nat) (D:List KV) (i:Nat):SKV:=((s:Int),(D.getD i ([],[])).1,(D.getD i ([],[])).2)
theorem zb1 (s:Nat) (D:List KV):(List.range D.length).map (pairI s D)=D.map fun p=>((s:Int),p.1,p.2):=by
 refine List.ext_getElem (by simp) fun i h1 h2=>?_
 have h3:i<D.length:=by simpa using h2
 simp[pairI,List.getD,List.getElem?_eq_getElem h3]
theorem zb2 {s:Nat} {D:List KV} {I:List Nat} (hn:I.Nodup) (h:∀i,i∈I↔i<D.length):(I.map (pairI s D)).Perm (D.map fun p=>((s:Int),p.1,p.2)):=by
 rw[←zb1]
 exact((List.perm_ext_iff_of_nodup hn List.nodup_range).2 fun i=>by rw[h i,List.mem_range]).map _
theorem zb3:SlTy Tryz.prog 29 42 3 56:=z1x Tryz.underlying29 (z:=.agg #[.int .i64 0,.slice none 0 0,.slice none 0 0]) (by kernel_rfl) rfl (by decide)
theorem zb4 {w:World} {N g n cap e m k:Nat} {xs:List Value} (h:w.ownsRow N e k (.slice (some ⟨g,0,none⟩) n cap) n xs) (hm:m≤n):w.ownsRow N e k (.slice (some ⟨g,0,none⟩) m cap) m (xs.take (m*k)):=by
 have hmk:=Nat.mul_le_mul_right k hm
 refine⟨by rw[List.length_take,h.1];exact Nat.min_eq_left hmk,.inr ?_⟩
 rcases h.2 with⟨e1,_⟩|⟨g',cap',cur,e1,h1,h2,h3,h4,h5,h6⟩
 · cases e1
 · injection e1 with e1 e2 e3
   injection e1 with e1
   injection e1 with e1
   subst e1 e3
   exact⟨g,cap,cur,rfl,h1,h2,by omega,h4,h5,by rw[←h6,List.take_take,Nat.min_eq_left hmk]⟩
theorem zb5 {F:Nat→Prop} {w:World}:∀{xs:List Value} {l:List SKV} (m:Nat),PairCellsS F w xs l→PairCellsS F w (xs.take (m*3)) (l.take m)
 |_,_,0,h=>by simpa using PairCellsS.nil
 |_,_,m+1,.nil=>by simpa using PairCellsS.nil
 | _, _, m + 1, .cons h1 h2 h3 => by
   rw[show(m+1)*3=m*3+1+1+1 by omega]
   exact .cons h1 h2 (zb5 m h3)
theorem OutS.cut {N:Nat} {w:World} {g cap m:Nat} {M:List SKV} (h:OutS N w (.slice (some ⟨g,0,none⟩) M.length cap) M) (hm:m≤M.length):OutS N w (.slice (some ⟨g,0,none⟩) m cap) (M.take m):=by
 obtain⟨ys,a,b⟩:=h
 refine⟨ys.take (m*3),?_,zb5 m b⟩
 rw[List.length_take,Nat.min_eq_left hm]
 exact zb4 a hm
theorem zb6 {P:Nat→Prop} {N5:Nat} {w w1 w2:World} {ov ov2 kv vv:Value} {M:List SKV} {ys:List Value} {x:SKV} (ho:w.ownsRow N5 42 3 ov M.length ys) (hc:PairCellsS (fun b=>P b∧¬ov.ownBlock=some b) w ys M) (f1:Fr C0 w w1) (hk:BytesAt (fun b=>P b∧¬ov.ownBlock=some b) w kv x.2.1) (hv:BytesAt (fun b=>P b∧¬ov.ownBlock=some b) w vv x.2.2)
 (f2:Fr (fun b=>ov.ownBlock=some b) w1 w2) (o2:w2.ownsRow N5 42 3 ov2 (M.length+1) (ys++[.int .i64 x.1,kv,vv])) (k2:∀b,ov2.ownBlock=some b→ov.ownBlock=some b∨w1.heap.size≤b):∃ys,w2.ownsRow N5 42 3 ov2 (M++[x]).length ys∧PairCellsS (fun b=>P b∧¬ov2.ownBlock=some b) w2 ys (M++[x]):=by
 have s1:=f1.size
 have F2:Fr (fun b=>ov.ownBlock=some b) w w2:=(f1.mono (fun _ _ e=>e.elim)).trans f2 (fun _ _ e=>e)
 have hn:∀b,(P b∧¬ov.ownBlock=some b)∧b<w.heap.size→P b∧¬ov2.ownBlock=some b:=fun b hb=>⟨hb.1.1,fun e=>by
  rcases k2 b e with e|e
  · exact hb.1.2 e
  · have:=hb.2;omega⟩
 have nw:∀{u:Value} {z:Bs},BytesAt (fun b=>P b∧¬ov.ownBlock=some b) w u z→BytesAt (fun b=>P b∧¬ov2.ownBlock=some b) w2 u z:=fun hb=>
  ((hb.mono (F':=fun b=>(P b∧¬ov.ownBlock=some b)∧b<w.heap.size) (fun b hb hl=>⟨hb,hl⟩)).fr F2 (fun b hb e=>hb.1.2 e)).mono (fun b hb _=>hn b hb)
 exact⟨_,by rw[List.length_append];exact o2,PairCellsS.append (.cons (nw hk) (nw hv) .nil) (((hc.mono (F':=fun b=>(P b∧¬ov.ownBlock=some b)∧b<w.heap.size) (fun b hb hl=>⟨hb,hl⟩)).fr F2 (fun b hb e=>hb.1.2 e)).mono (fun b hb _=>hn b hb))⟩
theorem zb7 {k v:Bs}:∀m:List KV,(setD k v m).length≤m.length+1
 |[]=>by simp[setD]
 | p :: m => by
   rw[setD]
   split
   · simp
   · have:=zb7 (k:=k) (v:=v) m
     simp only[List.length_cons]
     omega
theorem zb8 {s:Int}:∀(l:List Chg) (m:List KV),(l.foldl (stepD s) m).length≤m.length+l.length
 |[],m=>by simp
 | c :: l, m => by
   rw[List.foldl_cons]
   have h1:=zb8 (s:=s) l (stepD s m c)
   have h2:(stepD s m c).length≤m.length+1:=by
    unfold stepD
    split
    · split
      · have:(delD c.key m).length≤m.length:=List.length_filter_le _ _
        omega
      · exact zb7 m
    · omega
   simp only[List.length_cons]
   omega
theorem zb9 (s:Int) (l:List Chg):(mapD s l).length≤l.length:=by
 have:=zb8 (s:=s) l []
 rw[List.length_nil,Nat.zero_add] at this
 exact this
theorem zba {s:Int} {p:KV}:∀(l:List Chg) (m:List KV),p∈l.foldl (stepD s) m→p∈m∨∃c∈l,c.key=p.1
 |[],m,h=>.inl h
 | c :: l, m, h => by
   rcases zba l (stepD s m c) h with h|⟨c',hc,e⟩
   · unfold stepD at h
     split at h
     · split at h
       · exact .inl (List.mem_filter.1 h).1
       · rcases z7z h with h|h
         · exact .inr ⟨c,List.mem_cons_self,by rw[h]⟩
         · exact .inl h
     · exact .inl h
   · exact .inr ⟨c',List.mem_cons_of_mem _ hc,e⟩
theorem zbb {s:Int} {l:List Chg} {p:KV} (h:p∈mapD s l):∃c∈l,c.key=p.1:=by
 rcases zba l [] h with h|h
 · simp at h
 · exact h
theorem OutS.form {N:Nat} {w:World} {ov:Value} {M:List SKV} (h:OutS N w ov M):∃A cp,ov=.slice A M.length cp:=by
 obtain⟨ys,a,b⟩:=h
 obtain⟨A,cp,rfl,-⟩:=z0n a
 exact⟨A,cp,rfl⟩
end
section
variable {c c' : Nat → Nat} {w w' : World} {dp sp tp : Nat} {Z : TSt} {lv : Value} {L : List Chg}
theorem zbc {s n:Nat} (h:DrfAt c w dp sp tp Z lv L) (hs:s<16) (hn:n≤1000000) (hL:L.length≤90000) :
 Calls Tryz.prog 49 #[.pointer (some ⟨dp,0,none⟩),.int .i64 (s:Int),.slice none 0 0,.slice none 0 0,.int .i64 (n:Int)] w fun e w'=>∃ov,e=.returned (.tuple #[ov,.int .i64 0])∧Hid (Fr C0 w w'∧∃M:List SKV,M.Perm ((mapD s L).map fun p=>((s:Int),p.1,p.2))∧M.Pairwise (fun a b=>¬bcmp b.2.1 a.2.1<0)∧OutS w.heap.size w' ov (M.take n)):=by
 have hem:=h.em
 have HR0:=zhd (z93 (n:=0) h.s hem (nilB (F:=fun _=>True)) (nilB (F:=fun _=>True)) hs (by simp) (by simp) (by omega))
 have HR1:=zhd (fun (w_:World) (hf:Fr C0 w w_)=>z93 (n:=1073741824) (h.s.fr0 hf) hem (nilB (F:=fun _=>True)) (nilB (F:=fun _=>True)) hs (by simp) (by simp) (by omega))
 have c0:=h.c0
 have c1:=h.c1
 have HD:=zhd h
 have HN:=zhd (z84 s L)
 have hmin:min (n:Int) 0=0:=by omega
 obtain⟨xs,hov,hxx⟩:=h.row
 have HXR:=zhd (Row.ofOwn hov (F:=fun _=>True) (fun _ _=>trivial))
 have HXC:=zhd (hxx.mono (F':=fun b=>c b=0∧b<w.heap.size) (fun b h1 h2=>⟨h1,h2⟩))
 have HOK:=zhd h.ok
 obtain⟨A,cp,rfl,hLc,hcm,-⟩:=h.form
 unfold maxLen at hcm
 clear h hem hov hxx
 go_enter Tryz.func49,Tryz.ntmps49
 go_wp2_with fail
 go_step3
 go_wp2_with fail
 refine HR0.out.mono ?_
 rintro e w1 ⟨A1,p1,rfl,f1⟩
 have e0:=f1.cell0 c0
 go_wp2_with fail
 refine(HR1.out _ f1).mono ?_
 rintro e w2 ⟨A2,p2,rfl,f2⟩
 have F2:=zhd (f1.trans0 f2)
 have hmn:=HS.MapIs.made w2
 have HM0:=zhd hmn
 have F3:=zhd (F2.out.alloc (.map #[] 0))
 have hsz:=F2.out.size
 have e1:=F3.out.cell0 c1
 clear e0 c0 c1 hmn HR0 HR1 f1 f2
 go_wp2_with fail
 refine wp_loop_rounds 1 ?_;rw[rounds_succ]
 go_wp2_with fail
 go_step3
 go_wp2_with fail
 generalize hm:w2.heap.size=m at *
 have hlt3:m<(w2.alloc (.map #[] 0)).heap.size:=by simp[hm]
 generalize w2.alloc (.map #[] 0)=w3 at *
 have HSZ:Hid (w.heap.size≤m):=zhd hsz
 clear F2 hm
 go_loopw [73] (fun i wr=>∃k,k≤L.length∧i=.int .i64 (k:Int)∧Hid (∃E,HS.MapIs wr m E∧HS.MapV (fun b=>w.heap.size≤b∧¬b=m) wr E (mapD s (L.take k)))∧Fr C0 w wr∧Hid (m<wr.heap.size)) (fun i _=>L.length-(intOf i).toNat)
 case atStart=>exact⟨0,Nat.zero_le _,rfl,zhd ⟨[],HM0.out,by rw[List.take_zero];exact .nil⟩,F3.out,zhd hlt3⟩
 case round=>
  obtain⟨k,hk,rfl,hM,hf,hml⟩:=hrel
  have HF:=zhd hf
  have d1:=hf.cell0 (HD.out.c1)
  clear e1
  by_cases hlt:k<L.length
  · obtain⟨g,o,ku,vu,rfl,a0,a1,a2,a3,a4,a5⟩:=z9d (HXR.out.fr0 HF.out) (HXC.out.fr HF.out (fun _ _ e=>e)) k hlt
    have hstep:mapD s (L.take (k+1))=stepD s (mapD s (L.take k)) L[k]:=by rw[List.take_succ_eq_append_getElem hlt,z85]
    have hokx:=z8m (HOK.out L[k] (List.getElem_mem _))
    generalize hx:L[k]=x at a0 a1 a2 a3 a4 a5 hstep hokx
    obtain⟨xs,xk,xv,xg⟩:=x
    dsimp only at a0 a1 a2 a3 a4 a5 hokx
    have HSTEP:=zhd hstep
    clear hx hstep
    have f2:=hf.alloc (.cells #[.int .i64 xs,ku,vu,.bool xg] 57)
    have hbx:=heap_alloc_new wr (.cells #[.int .i64 xs,ku,vu,.bool xg] 57)
    have HBX:=zhd hbx
    have q0:=z1u hbx 0 rfl
    have q1:=z1u hbx 1 rfl
    have q2:=z1u hbx 2 rfl
    have q3:=z1u hbx 3 rfl
    have F2:=zhd f2
    have FR:=zhd ((Fr.refl C0 wr).alloc (.cells #[.int .i64 xs,ku,vu,.bool xg] 57))
    have H4:=zhd (a4.fr0 FR.out)
    have H5:=zhd (a5.fr0 FR.out)
    have hst:=z23 H4.out
    have HCMP:=zhd (z5c (H4.out.mono (F':=fun _=>True) (fun _ _ _=>trivial)) nilB)
    have hlo:¬bcmp xk []<0:=by
     have:=z8l xk
     have h2:=z42 xk []
     omega
    obtain⟨A4,p4,rfl,-⟩:=a4.form
    obtain⟨A5,p5,rfl,-⟩:=a5.form
    have hE:Hid (∃E,HS.MapIs (wr.alloc (.cells #[.int .i64 xs,.slice A4 xk.length p4,.slice A5 xv.length p5,.bool xg] 57)) m E∧HS.MapV (fun b=>w.heap.size≤b∧¬b=m) (wr.alloc (.cells #[.int .i64 xs,.slice A4 xk.length p4,.slice A5 xv.length p5,.bool xg] 57)) E (mapD s (L.take k))):=by
     obtain⟨E,h1,h2⟩:=hM.out
     exact zhd ⟨E,h1.fr FR.out (fun e=>e),h2.fr FR.out (fun _ _ e=>e)⟩
    clear a4 a5 f2 hf d1 hM
    have hml2:=FR.out.size
    by_cases hsp:xs=(s:Int)
    · have hsb:(xs != (s:Int))=false:=by rw[hsp];simp
      have HSX:=zhd hsp
      have HLE:Hid (stepD s (mapD s (L.take k)) ⟨xs,xk,xv,xg⟩=if xg then delD xk (mapD s (L.take k)) else setD xk xv (mapD s (L.take k))):=zhd (by unfold stepD;rw[if_pos hsp])
      clear hsp
      cases xg with
      | true =>
        obtain⟨E,hE1,hE2⟩:=hE.out
        have HE1:=zhd hE1
        have HE2:=zhd hE2
        clear hE1 hE2
        obtain⟨o5,hdel,hn5⟩:=HS.run_delete_str (P:=Tryz.prog) (ats:=#[140,9]) (ty:=0) rfl Tryz.underlying140 Tryz.underlying9 HE1.out ⟨xk.toArray⟩
        have f5:Fr (fun b=>b=m) (wr.alloc (.cells #[.int .i64 xs,.slice A4 xk.length p4,.slice A5 xv.length p5,.bool true] 57)) (World.putObj (wr.alloc (.cells #[.int .i64 xs,.slice A4 xk.length p4,.slice A5 xv.length p5,.bool true] 57)) m o5):=(Fr.refl (fun b=>b=m) _).putObj (.inr rfl) o5
        have N5:=zhd hn5
        have F5:=zhd f5
        have E5:Hid (∀u y,BytesAt (fun b=>w.heap.size≤b∧¬b=m) (wr.alloc (.cells #[.int .i64 xs,.slice A4 xk.length p4,.slice A5 xv.length p5,.bool true] 57)) u y→BytesAt (fun b=>w.heap.size≤b∧¬b=m) (World.putObj (wr.alloc (.cells #[.int .i64 xs,.slice A4 xk.length p4,.slice A5 xv.length p5,.bool true] 57)) m o5) u y):=zhd (fun u y hu=>hu.fr f5 (fun b hb e=>hb.2 e))
        have V5:=zhd (HE2.out.fr f5 (fun b hb e=>hb.2 e))
        clear hn5 f5
        generalize World.putObj (wr.alloc (.cells #[.int .i64 xs,.slice A4 xk.length p4,.slice A5 xv.length p5,.bool true] 57)) m o5=w5 at *
        go_wp2_with fail
        refine HCMP.out.mono ?_
        rintro e w4 ⟨rfl,rfl⟩
        go_wp2_with fail
        go_roundw
        case rel=>exact⟨k+1,by omega,by go_num,zhd ⟨_,N5.out,by rw[HSTEP.out,HLE.out];exact V5.out.del⟩,F2.out.trans F5.out (fun b hb e=>by have e2:b=m:=e;have:=HSZ.out;omega),zhd (by have:=F5.out.size;have:=hml.out;omega)⟩
        case measure=>simp[intOf];omega
      | false =>
        obtain⟨W,hW⟩:∃W,W=(wr.alloc (.cells #[.int .i64 xs,.slice A4 xk.length p4,.slice A5 xv.length p5,.bool false] 57)):=⟨_,rfl⟩
        have HW:=zhd hW
        rw[←hW] at FR HCMP hE hml2 H4 H5 hst q0 q1 q2 q3 hbx
        have HST:=zhd (fun (w_:World) (hf:Fr C0 W w_)=>z23 (H4.out.fr0 hf))
        have HCV:=zhd (fun (w_:World) (hf:Fr C0 W w_)=>z8t (H5.out.fr0 hf) (by have:=hokx.2.2.2.2;omega))
        obtain⟨E,hE1,hE2⟩:=hE.out
        have HE1:=zhd hE1
        have HE2:=zhd hE2
        have FW:Hid (Fr C0 w W):=zhd (by rw[hW];exact F2.out)
        have B:=zhd hbx
        clear hE1 hE2 hst q0 q1 q2 q3
        rw[hW] at HCMP hbx
        have q0:=z1u hbx 0 rfl
        have q1:=z1u hbx 1 rfl
        have q3:=z1u hbx 3 rfl
        clear hbx hW
        go_wp2_with fail
        refine HCMP.out.mono ?_
        rintro e w4 ⟨rfl,rfl⟩
        go_wp2_with fail
        rw[←HW.out]
        clear q0 q1 q3
        have q1:=z1u B.out 1 rfl
        have q2:=z1u B.out 2 rfl
        refine z1i (Fr C0 W) [9] (by kernel_rfl) ?_
        have hSw0:(Fr C0 W) _:=(Fr.refl C0 W).drew
        refine tk 0 hSw0 ?_
        refine tk 1 hSw0 ?_
        refine tk 2 hSw0 ?_
        refine tk 3 hSw0 ?_ (hy:=by intro w_ hS_;have b1:=hS_.cell0 q1;have b2:=hS_.cell0 q2;first|(go_simp;done)|(go_simp;with_reducible rfl))
        refine tk 4 hSw0 ?_ (hy:=by intro w_ hS_;have kst:=HST.out _ hS_;first|(go_simp;done)|(go_simp;with_reducible rfl))
        refine tk 5 hSw0 ?_
        refine tk 6 hSw0 ?_
        refine tk 7 hSw0 ?_ (hy:=by intro w_ hS_;have b1:=hS_.cell0 q1;have b2:=hS_.cell0 q2;first|(go_simp;done)|(go_simp;with_reducible rfl))
        refine one_ 8 rfl (fun K hK=>?_)
        go_simp
        refine(HCV.out _ (Fr.refl C0 W).drew).mono ?_
        rintro e w5 ⟨u5,rfl,f5,o5⟩
        have F5:=zhd ((Fr.refl C0 W).drew.trans0 f5)
        have B5:=zhd (o5.mono (F':=fun b=>W.heap.size≤b) (fun b h _=>h))
        obtain⟨A5,p5,rfl,-⟩:=o5.form
        clear f5 o5
        simp only[]
        refine hK.out _ _ ?kS1 (fun hSw1=>?kR1)
        case kS1=>exact F5.out
        clear hK K
        try simp only[Act.put,zs1,zs2,zs3]
        refine z1f 9 rfl (fun K hK=>?_)
        refine HS.wp_update Tryz.underlying140 Tryz.underlying9 _ _ _ rfl (m:=m) (k:=⟨xk.toArray⟩) rfl rfl rfl (HE1.out.fr F5.out (fun e=>e)) ?_
        intro w6 n6 f6
        have N6:=zhd n6
        have F6:=zhd f6
        clear n6 f6
        refine hK.out _ _ ?_;clear hK K
        try simp only[Act.put,zs1,zs2,zs3]
        refine z1h (by kernel_rfl) ?_ _
        have F56:=zhd (((Fr.refl C0 W).mono (C2:=fun b=>b=m) (fun _ _ e=>e.elim)).trans0 F5.out |>.trans F6.out (fun _ _ e=>e))
        have V6:=zhd (HE2.out.fr F56.out (fun b hb e=>hb.2 e))
        have U6:=zhd ((B5.out.mono (F':=fun b=>w.heap.size≤b∧¬b=m) (fun b hb _=>by have h1:=FW.out.size;have h2:=hml.out;exact⟨by omega,by omega⟩)).fr F6.out (fun b hb e=>hb.2 e))
        go_wp2_with fail
        go_roundw
        case rel=>exact⟨k+1,by omega,by go_num,zhd ⟨_,N6.out,by rw[HSTEP.out,HLE.out];exact HS.MapV.set U6.out V6.out⟩,FW.out.trans F56.out (fun b hb e=>by have e2:b=m:=e;have:=HSZ.out;omega),zhd (by have:=F56.out.size;have:=hml.out;omega)⟩
        case measure=>simp[intOf];omega
    · have hsb:(xs != (s:Int))=true:=by simpa [bne] using hsp
      have HLE:Hid (stepD s (mapD s (L.take k)) ⟨xs,xk,xv,xg⟩=mapD s (L.take k)):=zhd (by unfold stepD;rw[if_neg hsp])
      clear hsp
      go_wp2_with fail
      go_roundw
      case rel=>
       obtain⟨E,hE1,hE2⟩:=hE.out
       exact⟨k+1,by omega,by go_num,zhd ⟨E,hE1,by rw[HSTEP.out,HLE.out];exact hE2⟩,F2.out,zhd (by have:=hml.out;omega)⟩
      case measure=>simp[intOf];omega
  · obtain rfl:k=L.length:=by omega
    obtain⟨E,hE1,hE2⟩:=hM.out
    rw[List.take_length] at hE2
    have HDL:=zhd (zb9 (s:Int) L)
    have HDK:Hid (∀p∈mapD s L,p.1.length≤100000):=zhd (fun p hp=>by
     obtain⟨x,hx,e⟩:=zbb hp
     have:=z8m (HOK.out x hx)
     rw[←e]
     omega)
    obtain⟨D,hD⟩:∃D,D=mapD s L:=⟨_,rfl⟩
    rw[←hD] at HDL HDK hE2
    have HDE:=zhd hD
    clear hD
    obtain⟨es,clock,hb,he⟩:=hE1
    have hrg:=run_range_map (P:=Tryz.prog) wr 140 9 40 m es clock Tryz.underlying140 hb
    have HE:=zhd he
    have HV:=zhd hE2
    have HB:=zhd hb
    have hmlt:=hml.out
    clear he hb hE2 hM hf d1 HXR HXC HM0 F3
    go_wp2_with fail
    clear hrg
    rename World=>wq
    go_loopw [21,22,23] (fun o _ _ wr=>∃(seen:Array Nat) (I:List Nat) (c0:Nat),Hid (wr.heap[wq.heap.size]?=some (.mapIter (some m) clock seen c0))∧Hid (clock≤c0)∧Hid (Fr C0 wq wr)∧Hid (∃ys,wr.ownsRow (wq.heap.size+1) 42 3 o (I.map (pairI s D)).length ys∧PairCellsS (fun b=>(w.heap.size≤b∧¬b=wq.heap.size)∧¬o.ownBlock=some b) wr ys (I.map (pairI s D)))∧Hid (wq.heap.size<wr.heap.size)∧Hid (∀i x,es.toList[i]?=some x→(seen.contains x.born=true↔i∈I))∧Hid I.Nodup∧Hid (∀i∈I,i<D.length)) (fun _ _ _ wr=>leftAt wr m wq.heap.size)
    case atStart=>
     exact⟨#[],[],clock,zhd (heap_alloc_new _ _),zhd (Nat.le_refl _),zhd ((Fr.refl _ _).alloc _),zhd ⟨[],World.ownsRow_nil _ _ _ _,.nil⟩,zhd (by simp),zhd (by simp),zhd .nil,zhd (by simp)⟩
    case round=>
     obtain⟨seen,I,c0,HI,HC0,HF5,HO,HL5,HS,HN5,HK⟩:=hrel
     have hlt1:¬m=wq.heap.size:=by have:=hml.out;omega
     have HB1:=zhd (HF5.out.blk HB.out (fun h=>h))
     have hIl:I.length≤D.length:=by
      have h1:=(List.nodup_range (n:=D.length))
      have:=z5u (a:=I) (b:=List.range D.length) HN5.out (fun i hi=>List.mem_range.2 (HK.out i hi))
      rwa [List.length_range] at this
     rcases run_next_at (P:=Tryz.prog) wr 0 wq.heap.size m clock c0 seen es clock HI.out HB1.out HE.out.clock HC0.out with⟨h0,hrun⟩|⟨e,hel,w6,hal,hrun⟩
     · have H0:=zhd h0
       clear h0
       have hall:∀x∈es.toList,seen.contains x.born=true:=by
        intro x hx
        cases hc:seen.contains x.born with
        |true=>rfl
        | false =>
          have h1:x∈leftOf es seen:=by unfold leftOf;rw[Array.mem_filter];exact⟨by simpa using hx,by simpa using hc⟩
          have:=Array.size_pos_of_mem h1
          have:=H0.out
          omega
       have hI:∀i,i∈I↔i<D.length:=fun i=>⟨HK.out i,fun hi=>by
        have hl:=zaz HE.out HV.out
        have hi2:i<es.toList.length:=by omega
        exact(HS.out i _ (List.getElem?_eq_getElem hi2)).1 (hall _ (List.getElem_mem hi2))⟩
       have HPM:=zhd (zb2 (s:=s) HN5.out hI)
       have hml:(I.map (pairI s D)).length≤100000:=by rw[List.length_map];have:=HDL.out;omega
       have ho5:OutS w.heap.size wr u21 (I.map (pairI s D)):=by
        obtain⟨ys,a,b⟩:=HO.out
        exact⟨ys,z0m a (fun b e=>by have:=(a.lt b e).1;have:=HF.out.size;omega),b.mono (fun b hb _=>⟨hb.1.1,hb.2⟩)⟩
       have HO5:=zhd ho5
       have HST:=zhd (zaf ho5 hml)
       have FW5:=zhd (HF.out.trans0 HF5.out)
       clear hall hI ho5 H0
       generalize I.map (pairI s D)=M at *
       obtain⟨A5,p5,rfl⟩:=HO5.out.form
       go_wp2_with fail
       refine HST.out.mono ?_
       rintro e w7 ⟨rfl,H7⟩
       obtain⟨f7,M',hp7,hs7,o7⟩:=H7.out
       have F7:Hid (Fr C0 w w7):=zhd (FW5.out.transO f7 (fun b e=>by
        obtain⟨ys,a,-⟩:=HO5.out
        exact(a.lt b e).1))
       have hpm:=HPM.out
       rw[HDE.out] at hpm
       have HP7:=zhd (hp7.trans hpm)
       clear hpm
       have HS7:=zhd (show M'.Pairwise (fun a b:SKV=>¬bcmp b.2.1 a.2.1<0) from hs7.imp (fun h=>by omega))
       have hl7:=hp7.length_eq
       rw[←hl7] at o7
       rw[←hl7]
       clear hp7 hs7 f7 H7 HST HPM HO5 hl7 hml
       have hcm:M'.length≤p5:=by
        obtain⟨ys,a,-⟩:=o7
        obtain⟨A',c',he,h1,h2⟩:=(Row.ofOwn a (F:=fun _=>True) (fun _ _=>trivial)).form
        injection he with e1 e2 e3
        omega
       have O7:=zhd o7
       have hnil:A5=none→M'.length=0∧p5=0:=fun e=>by
        subst e
        obtain⟨ys,a,-⟩:=o7
        rcases a.2 with⟨e1,h0⟩|⟨g,cap,cur,e1,-⟩
        · injection e1 with e1 e2 e3
          exact⟨h0,e3⟩
        · cases e1
       have hblk:∀a,A5=some a→∃g,a=⟨g,0,none⟩:=fun x e=>by
        subst e
        obtain⟨ys,a,-⟩:=o7
        rcases a.2 with⟨e1,h0⟩|⟨g,cap,cur,e1,-⟩
        · cases e1
        · injection e1 with e1
          injection e1 with e1
          exact⟨g,e1⟩
       clear o7
       cases A5 with
       | none =>
         obtain⟨hM0,rfl⟩:=hnil rfl
         have hMn:M'=[]:=List.eq_nil_of_length_eq_zero hM0
         subst hMn
         have hmn:min (0:Int) (n:Int)=0:=by omega
         have hn0:¬(n:Int)<0:=by omega
         clear hnil hblk hM0
         go_wp2_with fail
         simp only[Exit.noGoto]
         go_ret2
         exact⟨_,rfl,zhd ⟨F7.out,[],HP7.out,HS7.out.imp (fun h=>by omega),by rw[List.take_nil];exact OutS.nil⟩⟩
       | some a =>
         obtain⟨g,rfl⟩:=hblk a rfl
         clear hnil hblk
         by_cases hnl:(n:Int)<(M'.length:Int)
         · have hmn:min (M'.length:Int) (n:Int)=(n:Int):=by omega
           have hnp:n≤p5:=by omega
           go_wp2_with fail
           simp only[Exit.noGoto]
           go_ret2
           exact⟨_,rfl,zhd ⟨F7.out,M',HP7.out,HS7.out.imp (fun h=>by omega),O7.out.cut (by omega)⟩⟩
         · have hmn:min (M'.length:Int) (n:Int)=(M'.length:Int):=by omega
           go_wp2_with fail
           simp only[Exit.noGoto]
           go_ret2
           exact⟨_,rfl,zhd ⟨F7.out,M',HP7.out,HS7.out.imp (fun h=>by omega),by rw[List.take_of_length_le (by omega)];exact O7.out⟩⟩
     · obtain⟨he1,hns⟩:e∈es.toList∧seen.contains e.born=false:=by
        unfold leftOf at hel
        simpa using hel
       obtain⟨i,hi,hei,hk,hbv⟩:=zb0 HE.out HV.out he1
       have hkl:D[i].1.length≤100000:=HDK.out D[i] (List.getElem_mem hi)
       have hpi:pairI s D i=((s:Int),D[i].1,D[i].2):=by simp[pairI,List.getD,List.getElem?_eq_getElem hi]
       generalize D[i].1=kk at *
       generalize D[i].2=vv at *
       obtain⟨Av,cv,hval,-⟩:=hbv.form
       rw[hval] at hbv
       have F2:Fr (fun b=>b=wq.heap.size) wr (ChangeMaps.setBlock w6 wq.heap.size (.mapIter (some m) clock (seen.push e.born) clock)):=by
        rcases hal with rfl|rfl
        · exact Fr.putObj (C:=fun b=>b=wq.heap.size) (r:=wq.heap.size) (Fr.refl _ _) (.inr rfl) _
        · exact Fr.putObj (C:=fun b=>b=wq.heap.size) (r:=wq.heap.size) (Fr.refl _ wr).drew (.inr rfl) _
       have hs2:wq.heap.size<w6.heap.size:=by rcases hal with rfl|rfl<;>exact HL5.out
       have hI2:(ChangeMaps.setBlock w6 wq.heap.size (.mapIter (some m) clock (seen.push e.born) clock)).heap[wq.heap.size]?=some (.mapIter (some m) clock (seen.push e.born) clock):=z02 hs2
       generalize ChangeMaps.setBlock w6 wq.heap.size (.mapIter (some m) clock (seen.push e.born) clock)=w7 at *
       have hB3:=F2.blk HB1.out hlt1
       have hent:=run_entry_at (P:=Tryz.prog) w7 wq.heap.size m clock seen es clock e hI2 hB3 he1 HE.out.born
       rw[hk,hval] at hrun hent
       have hF7:Fr C0 wq w7:=⟨F2.os.trans HF5.out.os,F2.output.trans HF5.out.output,Nat.le_trans HF5.out.size F2.size,fun j hj hn=>by
        rw[F2.block j (Nat.lt_of_lt_of_le hj HF5.out.size) (by omega)];exact HF5.out.block j hj hn⟩
       obtain⟨ku,w8,hcv,f8,b8⟩:=zaw w7 kk hkl
       obtain⟨Ak,ck,rfl,-⟩:=b8.form
       have hsw:=hF7.size
       obtain⟨A5,p5,hu⟩:∃A5 p5,u21=.slice A5 (I.map (pairI s D)).length p5:=by
        obtain⟨ys,a,-⟩:=HO.out
        obtain⟨A5,p5,e,-⟩:=z0n a
        exact⟨A5,p5,e⟩
       subst hu
       obtain⟨ys,ho,hc⟩:=HO.out
       have hown:∀b,(Value.slice A5 (I.map (pairI s D)).length p5).ownBlock=some b→wq.heap.size+1≤b∧b<wr.heap.size:=fun b e=>ho.lt b e
       have HO8:=zhd (z0l (z0l ho F2 (fun b hb e=>by have:=hown b hb;omega)) f8 (fun _ _ e=>e))
       have HC8:=zhd ((hc.fr F2 (fun b hb e=>hb.1.2 e)).fr f8 (fun _ _ e=>e))
       have K8:=zhd (b8.mono (F':=fun b=>(w.heap.size≤b∧¬b=wq.heap.size)∧¬(Value.slice A5 (I.map (pairI s D)).length p5).ownBlock=some b) (fun b hb _=>⟨⟨by have:=HF.out.size;omega,by have:=F2.size;have:=HL5.out;omega⟩,fun e=>by have:=hown b e;have:=F2.size;omega⟩))
       have U8:=zhd ((hbv.mono (F':=fun b=>(w.heap.size≤b∧¬b=wq.heap.size)∧¬(Value.slice A5 (I.map (pairI s D)).length p5).ownBlock=some b) (fun b hb hl=>⟨⟨hb.1,by omega⟩,fun e=>by have:=hown b e;omega⟩)).fr0 (hF7.trans0 f8))
       have HF8:=zhd (hF7.trans0 f8)
       have HI8:=zhd (f8.blk hI2 (fun h=>h))
       have hml:(I.map (pairI s D)).length≤100000:=by rw[List.length_map];have:=HDL.out;omega
       have h8:=f8.size
       have HPI:=zhd (show((I++[i]).map (pairI s D))=I.map (pairI s D)++[((s:Int),kk,vv)] by rw[List.map_append,List.map_cons,List.map_nil,hpi])
       have hs3:=F2.size
       have hl5:=HL5.out
       clear hI2 hB3 F2 hal hs2 ho hc b8 hbv hown f8 hF7
       generalize hMM:I.map (pairI s D)=M at *
       go_wp2_with (at_builtin;go_must (refine z0k zb3 rfl _ _ rfl (v:=.slice A5 M.length p5) (xv:=.slice (some ⟨w8.heap.size,0,none⟩) 1 1) rfl rfl (B:=wq.heap.size+1) (z0l HO8.out ((Fr.refl C0 w8).alloc _) (fun _ _ h=>h)) (Row.ofBlock (F:=fun _=>True) (heap_alloc_new w8 _) trivial (by unfold maxLen;omega) rfl) (by simp[Value.oneCell']) (by unfold maxLen;omega) (by omega) (by have:=((Fr.refl C0 w8).alloc (.cells #[.int .i64 s,.slice Ak kk.length ck,.slice Av vv.length cv] 42)).size;omega) ?_);intro v9 w9 o9 f9 k9 nil9)
       have FA:=zhd ((Fr.refl C0 w8).alloc (.cells #[.int .i64 (s:Int),.slice Ak kk.length ck,.slice Av vv.length cv] 42))
       have hni:i∉I:=fun hi2=>by
        have:=(HS.out i e hei).2 hi2
        rw[hns] at this;cases this
       have hnr:=fun b hb=>(HO8.out.lt b hb).1
       have hI9:=f9.blk (FA.out.blk HI8.out (fun h=>h)) (fun h=>by have:=hnr _ h;omega)
       have hF9:Fr C0 wq w9:=(HF8.out.trans0 FA.out).transO f9 (fun b hb=>by have:=hnr b hb;omega)
       have HI9:=zhd hI9
       have HF9:=zhd hF9
       have ADD:=zhd (zb6 (x:=((s:Int),kk,vv)) HO8.out HC8.out FA.out K8.out U8.out f9 o9 k9)
       have hsz9:=f9.size
       have hszA:=FA.out.size
       clear hI9 hF9 o9 f9 k9 nil9
       go_wp2_with fail
       go_roundw
       case rel=>
        refine⟨seen.push e.born,I++[i],clock,HI9,zhd (Nat.le_refl _),HF9,zhd ?_,zhd (by omega),zhd fun j x hx=>?_,zhd ?_,zhd ?_⟩
        · rw[HPI.out];exact ADD.out
        · have hxm:x∈es.toList:=List.mem_of_getElem? hx
          have hx0:(seen.push e.born).contains x.born=true↔(seen.contains x.born=true∨j=i):=by
           constructor
           · intro hc
             simp at hc
             rcases hc with hc|hc
             · exact .inl (by simpa using hc)
             · right
               have hxe:=z3g HE.out.born hxm he1 hc
               have hn:=HE.out.born
               have hjl:j<(es.toList.map (·.born)).length:=by rw[List.length_map];exact(List.getElem?_eq_some_iff.1 hx).1
               refine(List.getElem?_inj hjl hn).1 ?_
               rw[List.getElem?_map,List.getElem?_map,hx,hei,hxe]
           · rintro(hc|rfl)
             · simp at hc⊢;exact .inl hc
             · have hxe:x=e:=by rw[hx] at hei;injection hei
               rw[hxe];simp
          rw[hx0,HS.out j x hx]
          simp
        · exact List.nodup_append.2 ⟨HN5.out,by simp,fun a ha b hb e2=>hni (by simp at hb;rw[←hb,←e2];exact ha)⟩
        · intro x hx
          rcases List.mem_append.1 hx with h|h
          · exact HK.out x h
          · simp at h;rw[h];exact hi
       case measure=>
        rw[zao (HF9.out.blk HB.out (fun h=>h)) HI9.out,zao HB1.out HI.out]
        exact z3f (List.Sublist.refl _) he1 hns
end
end Go.Proofs.YtidalepbkljkpaaGreat
