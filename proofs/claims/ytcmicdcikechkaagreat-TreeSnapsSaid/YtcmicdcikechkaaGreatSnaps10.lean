import Derived.Test.YtcmicdcikechkaaGreatSnaps09
import Derived.Laws.IdiomRangeMap
set_option linter.all false
namespace Go.Proofs.YtcmicdcikechkaaGreat
open Go.RowKit Go.H
set_option maxHeartbeats 1000000
set_option maxRecDepth 100000
section
def leftIn (w:World) (sm r:Nat):Nat:=match w.heap[sm]? with
 |some (.map es _)=>(leftOf es (w.iterSeen r)).size
 |_=>0
theorem z56 {w:World} {sm r:Nat} {es:Array MapEntry} {clock a b:Nat} {s:Array Nat} {q:Option Nat} (h:w.heap[sm]?=some (.map es clock)) (hr:w.heap.size=r):leftIn (w.alloc (.mapIter q a s b)) sm r=(leftOf es s).size:=by
 have hl:=(Array.getElem?_eq_some_iff.1 h).1
 unfold leftIn
 rw[Below.heap_alloc _ _ _ hl,h,←hr]
 simp
theorem z57 (L:List (Int×Int)):L=L.filter (fun p=>decide (p.1∉([]:List Int))):=(List.filter_eq_self.2 (by simp)).symm
theorem z58 {L:List (Int×Int)} {del:List Int} (hD:∀p∈L,p.1∈del→p.2=2) (hN:∀p∈L.filter (fun p=>decide (p.1∉del)),p.2≠2):L.filter (fun p=>decide (p.1∉del))=L.filter (fun p=>decide (p.2≠2)):=by
 refine List.filter_congr fun p hp=>?_
 by_cases h:p.1∈del
 · simp[h,hD p hp h]
 · have:=hN p (List.mem_filter.2 ⟨hp,by simp[h]⟩)
   simp[h,this]
theorem z59 {es:Array MapEntry} {cl:Nat} {L:List (Int×Int)} (h:Ent es cl (vmap L)) {p:Int×Int} (hp:p∈L):∃e∈es.toList,e.key=.int .i64 p.1∧e.val=.int .i64 p.2:=by
 have h1:kvp (p.1,.int .i64 p.2)∈(vmap L).map kvp:=List.mem_map.2 ⟨_,List.mem_map.2 ⟨p,hp,rfl⟩,rfl⟩
 rw[←h.kv] at h1
 obtain⟨e,he,h2⟩:=List.mem_map.1 h1
 simp only[kvp,Prod.mk.injEq] at h2
 exact⟨e,he,h2.1,h2.2⟩
theorem z5a {es:Array MapEntry} {cl:Nat} {L:List (Int×Int)} (h:Ent es cl (vmap L)) {e:MapEntry} (he:e∈es.toList):∃p∈L,e.key=.int .i64 p.1∧e.val=.int .i64 p.2:=by
 have h1:(e.key,e.val)∈es.toList.map (fun e=>(e.key,e.val)):=List.mem_map.2 ⟨e,he,rfl⟩
 rw[h.kv] at h1
 obtain⟨q,hq,h2⟩:=List.mem_map.1 h1
 obtain⟨p,hp,rfl⟩:=List.mem_map.1 hq
 simp only[kvp,Prod.mk.injEq] at h2
 exact⟨p,hp,h2.1.symm,h2.2.symm⟩
theorem z5b {es es2:Array MapEntry} {seen:Array Nat} {e:MapEntry} (hsub:es2.toList.Sublist es.toList) (he:e∈es.toList) (hns:seen.contains e.born=false):(leftOf es2 (seen.push e.born)).size<(leftOf es seen).size:=by
 have h1:∀(a:Array MapEntry) (s:Array Nat),(leftOf a s).size=(a.toList.filter fun e=>!s.contains e.born).length:=fun a s=>by
  unfold leftOf;rw[←Array.length_toList,Array.toList_filter]
 rw[h1,h1]
 refine Nat.lt_of_le_of_lt ((hsub.filter _).length_le) (filter_lt _ _ ?_ e (by simpa using hns) (by simp) _ he)
 intro x hx
 simp at hx⊢
 exact hx.1
theorem z5c {es:Array MapEntry} (hn:(es.toList.map (·.born)).Nodup) {x e:MapEntry} (hx:x∈es.toList) (he:e∈es.toList) (h:x.born=e.born):x=e:=by
 have h1:=find_born x es.toList hn hx
 have h2:=find_born e es.toList hn he
 rw[h] at h1
 rw[h1] at h2
 exact Option.some.inj h2
theorem z5d {p q:Int×Int}:∀{L:List (Int×Int)},((vmap L).map Prod.fst).Nodup→p∈L→q∈L→q.1=p.1→q=p
 | x :: L, hn, hp, hq, h => by
   have hn2:x.1∉(vmap L).map Prod.fst∧((vmap L).map Prod.fst).Nodup:=List.nodup_cons.1 hn
   have hmem:∀y∈L,y.1∈(vmap L).map Prod.fst:=fun y hy=>List.mem_map.2 ⟨(y.1,.int .i64 y.2),List.mem_map.2 ⟨y,hy,rfl⟩,rfl⟩
   rcases List.mem_cons.1 hp with rfl|hp2<;>rcases List.mem_cons.1 hq with rfl|hq2
   · rfl
   · exact absurd (h▸hmem q hq2) hn2.1
   · exact absurd (h▸hmem p hp2) hn2.1
   · exact z5d hn2.2 hp2 hq2 h
theorem z5e {k:Int}:∀{L:List (Int×Value)} {v:Value} (i:Nat),(k,v)∈L→∃j u,findIx k L i=some (j,u)
 |[],_,_,h=>by simp at h
 | p :: L, v, i, h => by
   by_cases hk:p.1=k
   · exact⟨i,p.2,by simp[findIx,hk]⟩
   · simp only[findIx,if_neg hk]
     rcases List.mem_cons.1 h with h|h
     · exact absurd (by rw[←h]) hk
     · exact z5e (i+1) h
theorem z5f {P:Program} {w:World} {T K E m ty i c:Nat} {u:Value} {es:Array MapEntry} {L:List (Int×Value)} {ats:Array TypeId} (ha:ats[0]?=some T) (hT:P.underlying T=some (.map K E)) (hK:P.underlying K=some (.int .i64))
 (hm:w.heap[m]?=some (.map es c)) (he:Ent es c L) (k:Int) (hfi:findIx k L 0=some (i,u)) :
 (Builtin.delete_ ats ty #[.map (some m),.int .i64 k]).run P w=.ok (.tuple #[]) (World.putObj w m (.map (es.eraseIdxIfInBounds i) c)):=by
 have hf:=z05 k es.toList L 0 he.kv
 have hc:∀b,(Instr.checkKey b 10000 K (.int .i64 k)).run P w=.ok () w:=by
  intro b;unfold Instr.checkKey;simp[run_underlying hK]
 simp[Builtin.delete_,ha,run_underlying hT,Go.H.run_getObj_map hm,hc,Instr.findKey,run_underlying hK,hf,hfi,Go.H.run_setObj_map _ hm]
theorem z5g {w:World} {m:Nat} {o o2:Obj} (h:m<w.heap.size):World.putObj (w.alloc o2) m o=(World.putObj w m o).alloc o2:=by
 unfold World.putObj World.alloc
 congr 1
 apply Array.ext_getElem?
 intro j
 simp only[Array.getElem?_setIfInBounds,Array.getElem?_push,Array.size_push,Array.size_setIfInBounds]
 by_cases h1:m=j
 · subst h1
   simp[h,show ¬m=w.heap.size by omega,show m<w.heap.size+1 by omega]
 · simp[h1]
theorem z5h {c:Nat→Nat} {r:Nat} {w:World} {st sm d m:Nat} {ov:Value} {S:SSt} {D:DSt} (h:StoreIn c r w st sm d m ov S D) (hr:r≠0) :
 Calls Tryz.prog 82 #[.pointer (some ⟨st,0,none⟩)] w fun e w'=>e=.returned (.tuple #[])∧StoreIn c r w' st sm d m ov { S with state:=S.state.filter (fun p=>decide (p.2≠2)) } D∧Fr (fun b=>b=sm) w w':=by
 have HS:=zhd h
 have hst:=h.st_sm
 have c1:=z2g h.blk 1 rfl
 obtain⟨es,clock,hb,he⟩:=h.map
 have hrg:=run_range_map (P:=Tryz.prog) w 74 3 3 sm es clock Tryz.underlying74 hb
 clear h
 have HE:=zhd he
 have HB:=zhd hb
 clear he hb
 go_enter Tryz.func82,Tryz.ntmps82
 go_wp2
 go_loopw [2,3] (fun _ _ wr=>∃(w1:World) (es1:Array MapEntry) (seen:Array Nat) (del:List Int),wr=w1.alloc (.mapIter (some sm) clock seen clock)∧w1.heap.size=w.heap.size∧Hid (Fr (fun b=>b=sm) w w1)∧Hid (w1.heap[sm]?=some (.map es1 clock))∧Hid (∀x∈es1.toList,x.born<clock)∧Hid (Ent es1 clock (vmap (S.state.filter (fun p=>decide (p.1∉del)))))∧Hid (∀p∈S.state,p.1∈del→p.2=2)∧Hid (∀x∈es1.toList,seen.contains x.born=true→x.val≠.int .i64 2)) (fun _ _ wr=>leftIn wr sm w.heap.size)
 case atStart=>
  exact⟨w,es,#[],[],rfl,rfl,zhd (Fr.refl _ _),HB,zhd HE.out.clock,zhd (by rw[←z57];exact HE.out),zhd (by simp),zhd (by simp)⟩
 case round=>
  obtain⟨w1,es1,seen,del,rfl,hsz,HF,HM,HO,HEn,HD,HN⟩:=hrel
  have hlt:sm<w1.heap.size:=(Array.getElem?_eq_some_iff.1 HM.out).1
  rcases run_next_map (P:=Tryz.prog) w1 0 sm clock clock seen es1 clock HM.out HO.out (Nat.le_refl _) with⟨h0,hrun⟩|⟨e,hel,w2,hal,hrun⟩
  · rw[hsz] at hrun
    have H0:=zhd h0
    clear h0
    go_wp2
    go_end0
    have hall:∀x∈es1.toList,seen.contains x.born=true:=by
     intro x hx
     cases hc:seen.contains x.born with
     |true=>rfl
     | false =>
       have h1:x∈leftOf es1 seen:=by unfold leftOf;rw[Array.mem_filter];exact⟨by simpa using hx,by simpa using hc⟩
       have:=Array.size_pos_of_mem h1
       have:=H0.out
       omega
    have hk:=z58 HD.out (fun p hp=>by
     obtain⟨e,he,_,hv⟩:=z59 HEn.out hp
     intro h2
     rw[h2] at hv
     exact HN.out e he (hall e he) hv)
    have hn:MapIs (w1.alloc (.mapIter (some sm) clock seen clock)) sm (vmap (S.state.filter (fun p=>decide (p.2≠2)))):=by
     rw[←hk]
     exact⟨es1,clock,by rw[Below.heap_alloc _ _ _ hlt];exact HM.out,HEn.out⟩
    exact⟨rfl,HS.out.setState hr hn (HF.out.alloc _),HF.out.alloc _⟩
  · obtain⟨he1,hns⟩:e∈es1.toList∧seen.contains e.born=false:=by
     unfold leftOf at hel
     simpa using hel
    obtain⟨p,hp,hk,hv⟩:=z5a HEn.out he1
    have hM2:w2.heap[sm]?=some (.map es1 clock):=by rw[hal.1];exact HM.out
    have hs2:w2.heap.size=w.heap.size:=by rw[hal.1];exact hsz
    have hent:=run_entry_map (P:=Tryz.prog) w2 sm clock seen es1 clock e hM2 he1 HEn.out.born
    rw[hsz] at hrun
    rw[hs2] at hent
    rw[hk,hv] at hrun hent
    have F2:Fr (fun b=>b=sm) w w2:=⟨hal.2.1.trans HF.out.os,hal.2.2.trans HF.out.output,by rw[hs2];exact Nat.le_refl _,fun j hj hn=>by rw[hal.1];exact HF.out.block j hj hn⟩
    have cw:=(F2.alloc (.mapIter (some sm) clock (seen.push e.born) clock)).cell c1 hst
    have hlt2:sm<w2.heap.size:=by rw[hs2,←hsz];exact hlt
    have hB:(w2.alloc (.mapIter (some sm) clock (seen.push e.born) clock)).heap[sm]?=some (.map es1 clock):=by rw[Below.heap_alloc _ _ _ hlt2];exact hM2
    have hx:∀x∈es1.toList,(seen.push e.born).contains x.born=true→seen.contains x.born=true∨x=e:=by
     intro x hx hc
     simp at hc
     rcases hc with hc|hc
     · exact .inl (by simpa using hc)
     · exact .inr (z5c HEn.out.born hx he1 hc)
    have hp0:=(List.mem_filter.1 hp).1
    by_cases h2:p.2=2
    · rw[h2] at hrun hent
      obtain⟨j,u,hfi⟩:=z5e (k:=p.1) (L:=vmap (S.state.filter (fun p=>decide (p.1∉del)))) (v:=.int .i64 p.2) 0 (List.mem_map.2 ⟨p,hp,rfl⟩)
      have hdl:=z5f (P:=Tryz.prog) (ats:=#[74,3]) (ty:=0) (T:=74) (K:=3) (E:=3) rfl Tryz.underlying74 Tryz.underlying3 hB HEn.out p.1 hfi
      rw[z5g hlt2] at hdl
      have hE2:=HEn.out.del p.1 hfi
      have hsub:(es1.eraseIdxIfInBounds j).toList.Sublist es1.toList:=by
       rw[Array.eraseIdxIfInBounds]
       split
       · rw[Array.toList_eraseIdx];exact List.eraseIdx_sublist _ _
       · exact List.Sublist.refl _
      have hml:mdel (vmap (S.state.filter (fun p=>decide (p.1∉del)))) p.1=vmap (S.state.filter (fun q=>decide (q.1∉p.1::del))):=by
       simp only[mdel,vmap,List.filter_map,List.filter_filter]
       congr 1
       refine List.filter_congr fun q _=>?_
       simp
      rw[hml] at hE2
      go_wp2
      refine⟨⟨World.putObj w2 sm (.map (es1.eraseIdxIfInBounds j) clock),es1.eraseIdxIfInBounds j,seen.push e.born,p.1::del,rfl,by rw[z04];exact hs2,zhd (F2.putObj (.inr rfl) _),zhd (z02 hlt2),zhd (fun x hx1=>HO.out x (hsub.mem hx1)),zhd hE2,zhd fun q hq hd=>?_,zhd fun x hx1 hc=>?_⟩,?_⟩
      · rcases List.mem_cons.1 hd with h|h
        · by_cases hqd:q.1∈del
          · exact HD.out q hq hqd
          · have hqm:q∈S.state.filter (fun p=>decide (p.1∉del)):=List.mem_filter.2 ⟨hq,by simpa using hqd⟩
            rw[z5d HEn.out.keys hp hqm h];exact h2
        · exact HD.out q hq h
      · rcases hx x (hsub.mem hx1) hc with h|rfl
        · exact HN.out x (hsub.mem hx1) h
        · obtain⟨q,hq,hqk,_⟩:=z5a hE2 hx1
          have:=(List.mem_filter.1 hq).2
          rw[hk] at hqk
          injection hqk with _ hqk
          simp[hqk] at this
      · rw[z56 (z02 hlt2) (by rw[z04];exact hs2),z56 HM.out hsz]
        exact z5b hsub he1 hns
    · go_wp2
      refine⟨⟨w2,es1,seen.push e.born,del,rfl,hs2,zhd F2,zhd hM2,HO,HEn,HD,zhd fun x hx1 hc=>?_⟩,?_⟩
      · rcases hx x hx1 hc with h|rfl
        · exact HN.out x hx1 h
        · rw[hv];simpa using h2
      · rw[z56 hM2 hs2,z56 HM.out hsz]
        exact z5b (List.Sublist.refl _) he1 hns
end
section
def SFlushR (c:Nat→Nat) (r:Nat) (w:World) (st sm d m:Nat) (S:SSt) (D:DSt) (err:Int) (w':World):Prop:=Fr (fun b=>b=m∨b=d) w w'∧((err=0∧StoreIn c r w' st sm d m (.slice none 0 0) S D.tick.flush)∨(err=20∧Fell c r w w' d D (CutQ D)))
theorem z5i {c:Nat→Nat} {r:Nat} {w:World} {st sm d m:Nat} {ov:Value} {S:SSt} {D:DSt} (h:StoreIn c r w st sm d m ov S D) (hd:D.down=false) (hr:r≠0) (hc:Cl w c) :
 Calls Tryz.prog 79 #[.pointer (some ⟨d,0,none⟩)] w fun e w'=>∃err:Int,e=.returned (.int .i64 err)∧Hid (SFlushR c r w st sm d m S D err w'):=by
 refine(z3s h.disk hd (fun b hb=>hc b hb) (fun k=>hr (h.om.symm.trans k)) (fun k=>hr (h.od.symm.trans k)) h.d_m h.ov_m h.ov_d).mono ?_
 rintro e w' ⟨err,rfl,H⟩
 obtain⟨f,(⟨rfl,D2⟩|⟨rfl,hf⟩)⟩:=H.out
 · exact⟨0,rfl,zhd ⟨f,.inl ⟨rfl,⟨f.blk h.blk (fun k=>k.elim h.st_m h.st_d),h.map.fr f (fun k=>k.elim h.ne (fun e=>h.d_sm e.symm)),D2,h.ost,h.osm,h.od,h.om,fun b hb=>by simp[Value.ownBlock] at hb,h.ne,h.dk⟩⟩⟩⟩
 · exact⟨20,rfl,zhd ⟨f,.inr ⟨rfl,Fell.of hf (fun b hb=>hb) hc f.size h.od h.om h.d_m⟩⟩⟩
def SWriteR (c:Nat→Nat) (r:Nat) (w:World) (st sm d m k:Nat) (S:SSt) (D:DSt) (b:Bs) (err:Int) (w':World):Prop:=Fr (fun b=>c b=r∧b≠st) w w'∧((err=0∧∃c' ov',Ag w.heap.size c c'∧Cl w' c'∧StoreIn c' r w' st sm d m ov' S (D.tick.write k b)∧Fr (fun b=>c b=r∧b≠st∧b≠sm∧b≠m) w w')∨(err=20∧Fell c r w w' d D (CutQ D)))
theorem z5j {c:Nat→Nat} {r:Nat} {w:World} {st sm d m k:Nat} {ov v:Value} {S:SSt} {D:DSt} {b:Bs} (h:StoreIn c r w st sm d m ov S D) (hd:D.down=false) (hr:r≠0) (hc:Cl w c) (hk:k<D.blocks) (hv:BytesAt (Dt c) w v b) (hb:b.length≤8192) (ho:D.opn.length<100000) :
 Calls Tryz.prog 80 #[.pointer (some ⟨d,0,none⟩),.int .i64 (k:Int),v] w fun e w'=>∃err:Int,e=.returned (.int .i64 err)∧Hid (SWriteR c r w st sm d m k S D b err w'):=by
 have hs:=h
 refine(z3r (hs.disk.mono (F':=fun b=>c b=0∧b<w.heap.size) fun b hb hl=>⟨hb,hl⟩) hd hk (hv.mono fun b hb hl=>⟨hb,hl⟩) hb ho (fun k=>hr (hs.om.symm.trans k.1)) (fun k=>hr (hs.od.symm.trans k.1)) hs.d_m hs.ov_m hs.ov_d (fun b hb k=>hr ((hs.oov b hb).symm.trans k.1))).mono ?_
 rintro e w3 ⟨err,rfl,H⟩
 obtain⟨f0,hh⟩:=H.out
 have F0:Fr (fun b=>c b=r∧b≠st) w w3:=f0.mono fun b _ h=>by
  rcases h with h|h|h
  · exact⟨hs.oov b h,hs.ov_st b h⟩
  · exact h▸⟨hs.om,hs.st_m.symm⟩
  · exact h▸⟨hs.od,fun e=>hs.st_d e.symm⟩
 rcases hh with⟨rfl,ov',ho',D3,f3⟩|⟨rfl,hf⟩
 case inr=>exact⟨20,rfl,zhd ⟨F0,.inr ⟨rfl,Fell.of hf (fun b hb=>hb.elim (fun h=>h.1) (fun h=>hc b h)) hc F0.size hs.od hs.om hs.d_m⟩⟩⟩
 have hag:=z2i (c:=c) (r:=r) hs.oov ho'
 obtain⟨xs3,o3,o3'⟩:=D3.opn
 have e3:=f3.size
 have hst:=(Array.getElem?_eq_some_iff.1 hs.blk).1
 have hsm:=hs.map.lt
 have hmlt:m<w.heap.size:=by obtain⟨M,k1,_⟩:=hs.disk.kept;exact k1.lt
 have hdlt:d<w.heap.size:=(Array.getElem?_eq_some_iff.1 hs.disk.blk).1
 refine⟨0,rfl,zhd ⟨F0,.inl ⟨rfl,setc c ov'.ownBlock r,ov',hag,?_,⟨?_,?_,?_,?_,?_,?_,?_,?_,hs.ne,hs.dk⟩,?_⟩⟩⟩
 · intro b hb
   unfold setc
   split
   · rename_i e;have:=(o3.lt b e).2;omega
   · exact hc b (by omega)
 · exact f3.blk hs.blk (fun k=>k.elim (fun k=>hs.ov_st _ k rfl) hs.st_d)
 · exact hs.map.fr f3 (fun k=>k.elim (fun k=>hs.ov_sm _ k rfl) (fun e=>hs.d_sm e.symm))
 · refine D3.mono (fun b hb _=>?_)
   unfold Dt setc
   split
   · rename_i e
     rcases hb with hb|hb
     · rcases ho' b e with h|h
       · exact absurd (hb.1.symm.trans (hs.oov b h)) (fun h=>hr h.symm)
       · omega
     · exact absurd e hb.2
   · rcases hb with hb|hb
     · exact hb.1
     · exact hc b (by omega)
 · exact(hag st hst).trans hs.ost
 · exact(hag sm hsm).trans hs.osm
 · exact(hag d hdlt).trans hs.od
 · exact(hag m hmlt).trans hs.om
 · intro b hb;simp[setc,hb]
 · exact f3.mono (fun b _ k=>k.elim (fun k=>⟨hs.oov b k,hs.ov_st b k,hs.ov_sm b k,hs.ov_m b k⟩) (fun e=>by subst e;exact⟨hs.od,fun e=>hs.st_d e.symm,hs.d_sm,hs.d_m⟩))
end
end Go.Proofs.YtcmicdcikechkaaGreat
