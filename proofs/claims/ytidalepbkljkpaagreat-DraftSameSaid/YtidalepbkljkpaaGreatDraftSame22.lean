import Derived.Test.YtidalepbkljkpaaGreatDraftSame21
import Derived.Test.YtidalepbkljkpaaGreatDraftSame16
import Derived.Test.YtidalepbkljkpaaGreatDraftSame17
import Derived.Test.YtidalepbkljkpaaGreatDraftSame14
import Derived.Test.YtidalepbkljkpaaGreatDraftSame20
import Derived.Test.YtidalepbkljkpaaGreatDraftSame19
import Derived.Shelf.Lay
import Derived.Ground.SlsfProg
import Derived.Lib.SmallJoins
set_option linter.all false
namespace Go.Proofs.YtidalepbkljkpaaGreat
set_option maxRecDepth 100000
section
open Go.RowKit Go.H Go.Shelf Go.Sort
set_option maxHeartbeats 1000000
def SpcR (L:List Chg) (s:Nat) (M:List SKV):Prop:=M.Perm ((mapD s L).map fun p=>((s:Int),p.1,p.2))∧M.Pairwise fun a b=>¬bcmp b.2.1 a.2.1<0
inductive AllR (L:List Chg):Nat→List SKV→Prop
 |zero:AllR L 0 []
 |succ {k:Nat} {M N:List SKV}:AllR L k M→SpcR L k N→AllR L (k+1) (M++N.take 1000)
theorem AllR.len {L:List Chg}:∀{k:Nat} {M:List SKV},AllR L k M→M.length≤k*1000
 |_,_,.zero=>by simp
 | _, _, .succ h1 h2 => by
   have:=AllR.len h1
   rw[List.length_append,List.length_take]
   omega
theorem zbd {L L':List Chg} {s:Nat} {M N:List SKV} (h:SpcR L s M) (h':SpcR L' s N) (hp:(mapD s L).Perm (mapD s L')):M=N:=by
 have hMN:M.Perm N:=h.1.trans ((hp.map _).trans h'.1.symm)
 have hn:(M.map fun x=>x.2.1).Nodup:=by
  have h1:=h.1.map (fun x:SKV=>x.2.1)
  rw[List.map_map] at h1
  rw[h1.nodup_iff]
  exact z84 s L
 have hinj:∀a∈M,∀b∈M,a.2.1=b.2.1→a=b:=fun a ha b hb e=>zap (f:=fun x:SKV=>x.2.1) hn ha hb e
 refine hMN.eq_of_pairwise (fun a b ha hb h1 h2=>?_) h.2 h'.2
 refine hinj a ha b (hMN.mem_iff.2 hb) ?_
 have hs:=z42 a.2.1 b.2.1
 exact z41 (by omega)
theorem zbe {L L':List Chg} (hp:∀s,(mapD (s:Nat) L).Perm (mapD (s:Nat) L')):∀{k:Nat} {M N:List SKV},AllR L k M→AllR L' k N→M=N
 |_,_,_,.zero,.zero=>rfl
 |_,_,_,.succ h1 h2,.succ h1' h2'=>by rw[zbe hp h1 h1',zbd h2 h2' (hp _)]
theorem zbf {N:Nat} {w w2:World} {ov ov2:Value} {M M2:List SKV} {ys zs:List Value} (hc:PairCellsS (fun b=>N≤b∧¬ov.ownBlock=some b) w ys M) (hm:PairCellsS (fun b=>N≤b∧¬ov.ownBlock=some b) w zs M2)
 (f2:Fr (fun b=>ov.ownBlock=some b) w w2) (o2:w2.ownsRow N 42 3 ov2 (M.length+M2.length) (ys++zs)) (k2:∀b,ov2.ownBlock=some b→ov.ownBlock=some b∨w.heap.size≤b):OutS N w2 ov2 (M++M2):=by
 have hn:∀b,(N≤b∧¬ov.ownBlock=some b)∧b<w.heap.size→N≤b∧¬ov2.ownBlock=some b:=fun b hb=>⟨hb.1.1,fun e=>by
  rcases k2 b e with e|e
  · exact hb.1.2 e
  · have:=hb.2;omega⟩
 have nw:∀{us:List Value} {l:List SKV},PairCellsS (fun b=>N≤b∧¬ov.ownBlock=some b) w us l→PairCellsS (fun b=>N≤b∧¬ov2.ownBlock=some b) w2 us l:=fun hb=>
  ((hb.mono (F':=fun b=>(N≤b∧¬ov.ownBlock=some b)∧b<w.heap.size) (fun b hb hl=>⟨hb,hl⟩)).fr f2 (fun b hb e=>hb.1.2 e)).mono (fun b hb _=>hn b hb)
 exact⟨_,by rw[List.length_append];exact o2,PairCellsS.append (nw hm) (nw hc)⟩
theorem OutS.pairs {N:Nat} {w:World} {ov:Value} {M:List SKV} (h:OutS N w ov M):PairsS (fun b=>N≤b) w ov M:=by
 obtain⟨ys,a,b⟩:=h
 exact⟨ys,Row.ofOwn a (fun b hb=>(a.lt b hb).1),b.mono (fun b hb _=>hb.1)⟩
variable {c c' : Nat → Nat} {w w' : World} {dp sp tp : Nat} {Z : TSt} {lv : Value} {L : List Chg}
theorem zbg (h:DrfAt c w dp sp tp Z lv L) (hL:L.length≤90000) :
 Calls Tryz.prog 14 #[.pointer (some ⟨dp,0,none⟩)] w fun e w'=>∃ov,e=.returned ov∧Hid (Fr C0 w w'∧∃M,AllR L 16 M∧OutS w.heap.size w' ov M):=by
 have HR:=zhd (fun (w_:World) (hf:Fr C0 w w_) (s:Nat) (hs:s<16)=>zbc (n:=1000) (h.fr0 hf) hs (by omega) hL)
 clear h
 go_enter Tryz.func14,Tryz.ntmps14
 go_wp2_with fail
 go_loopw [4,3] (fun i o wr=>∃(k:Nat) (M:List SKV),k≤16∧i=.int .i64 (k:Int)∧Hid (AllR L k M)∧Hid (OutS w.heap.size wr o M)∧Fr C0 w wr) (fun i o _=>16-(intOf i).toNat)
 case atStart=>exact⟨0,[],Nat.zero_le _,rfl,zhd .zero,zhd OutS.nil,Fr.refl _ _⟩
 case round=>
  obtain⟨k,M,hk,rfl,hA,hO,hf⟩:=hrel
  have HF:=zhd hf
  obtain⟨A3,p3,rfl⟩:=hO.out.form
  by_cases hlt:k<16
  · have HR1:=zhd (HR.out wr hf k hlt)
    clear hf
    go_wp2_with fail
    refine HR1.out.mono ?_
    rintro e w2 ⟨ov,rfl,H2⟩
    obtain⟨f2,N,hp,hs,o2⟩:=H2.out
    have hA2:Hid (AllR L (k+1) (M++N.take 1000)):=zhd (.succ hA.out ⟨hp,hs.imp (fun h=>by omega)⟩)
    generalize N.take 1000=N2 at *
    have hlen:=hA2.out.len
    rw[List.length_append] at hlen
    obtain⟨ys,ho,hc⟩:=hO.out.fr0 f2
    obtain⟨zs,ho2,hc2⟩:=o2
    have hsz:=f2.size
    have hw:=HF.out.size
    have hlo:∀b,(Value.slice A3 M.length p3).ownBlock=some b→b<wr.heap.size:=fun b e=>by
     obtain⟨ys,a,-⟩:=hO.out
     exact(a.lt b e).2
    have HO2:=zhd ho
    have HC2:=zhd hc
    have HR2:=zhd (Row.ofOwn ho2 (F:=fun _=>True) (fun _ _=>trivial))
    have HM2:=zhd (hc2.mono (F':=fun b=>w.heap.size≤b∧¬(Value.slice A3 M.length p3).ownBlock=some b) (fun b hb _=>⟨by omega,fun e=>by have:=hlo b e;omega⟩))
    have F2:=zhd (HF.out.trans0 f2)
    obtain⟨A4,p4,rfl⟩:=(show OutS wr.heap.size w2 ov N2 from⟨zs,ho2,hc2⟩).form
    have h1:∀u∈zs,u.oneCell'=true:=hc2.one
    have H1:=zhd h1
    have hsw:=F2.out.size
    clear ho hc ho2 hc2 hlo f2 H2 hp hs h1 hO
    go_wp2_with (at_builtin;go_must (refine z0k zb3 rfl _ _ rfl (v:=.slice A3 M.length p3) (xv:=.slice A4 N2.length p4) rfl rfl (B:=w.heap.size) HO2.out HR2.out H1.out (by unfold maxLen;omega) (by omega) hsw ?_);intro v7 w7 o7 f7 k7 nil7)
    go_roundw
    case rel=>exact⟨k+1,_,by omega,by go_num,hA2,zhd (zbf HC2.out HM2.out f7 o7 k7),F2.out.transO f7 (fun b e=>(HO2.out.lt b e).1)⟩
    case measure=>simp[intOf];omega
  · obtain rfl:k=16:=by omega
    clear hf
    go_wp2_with fail
    go_ret
    exact⟨_,rfl,zhd ⟨HF.out,M,hA.out,hO.out⟩⟩
end
section
open Go.RowKit Go.H
set_option maxHeartbeats 1000000
variable {c c' : Nat → Nat} {w w' : World}
theorem zbh {d m n:Nat} (hd:DiskA (Dt c) w d m (.slice none 0 0) (newD n)) (od:c d=1) (om:c m=1) (hc:Cl w c) (h1:3≤n) (h2:n≤4096) :
 Calls Tryz.prog 22 #[.pointer (some ⟨d,0,none⟩)] w fun e w'=>∃sp,e=.returned (.tuple #[.pointer (some ⟨sp,0,none⟩),.int .i64 0])∧Hid (Fr C0 w w'∧∃tp c',Ag w.heap.size c c'∧LocAt c' w' sp tp (TSt.empty (newD n) 0 d) 0):=by
 have HO:=zhd (z7h (r:=1) (rn:=2) (rm:=3) (num:=0) (by exact⟨by omega,by omega,by omega,by omega,by omega,by omega⟩) hd od om (fun b hb=>by simp[Value.ownBlock] at hb) hc rfl h1 h2 (z7m n) rfl (z7l n) (by omega) (z7b (z7k n)))
 clear hd od om hc
 go_enter Tryz.func22,Tryz.ntmps22
 go_wp2_with fail
 refine HO.out.mono ?_
 rintro e w1 ⟨f1,tp,c1,rfl,ag1,hle,ht⟩
 have F1:=zhd f1
 have A1:=zhd ag1
 obtain⟨c2,hc2⟩:∃c2:Nat→Nat,c2=fun b=>if b=w1.heap.size then 7 else c1 b:=⟨_,rfl⟩
 have cl1:Cl w1 c1:=by obtain⟨st,lm,km,nr,lr,gv,ov,sn,t⟩:=ht;exact t.cl
 have ag2:Ag w1.heap.size c1 c2:=fun b hb=>by
  rw[hc2]
  show(if b=w1.heap.size then 7 else c1 b)=c1 b
  rw[if_neg (by omega)]
 obtain⟨w2,hw2⟩:∃w2,w2=w1.alloc (.cells (LocCells tp 0 []) 91):=⟨_,rfl⟩
 have F2:Fr C0 w1 w2:=by rw[hw2];exact(Fr.refl C0 w1).alloc _
 have hb2:w2.heap[w1.heap.size]?=some (.cells (LocCells tp 0 []) 91 (0,0)):=by rw[hw2];exact heap_alloc_new w1 _
 have hs2:w2.heap.size=w1.heap.size+1:=by rw[hw2];simp
 have cl2:Cl w2 c2:=fun b hb=>by
  rw[hc2]
  show(if b=w1.heap.size then 7 else c1 b)=0
  rw[if_neg (by omega)]
  exact cl1 b (by omega)
 have e7:c2 w1.heap.size=7:=by rw[hc2];exact if_pos rfl
 have ht2:TreeAt c2 1 2 3 w2 tp (TSt.empty (newD n) 0 d) 0:=ht.moveC F2 ag2 cl2 (fun b e=>e.elim) (fun b e=>e.elim) (fun b e=>e.elim) (fun b e=>e.elim)
 have HL:Hid (LocAt c2 w2 w1.heap.size tp (TSt.empty (newD n) 0 d) 0):=zhd ⟨ht2,hb2,e7,LocOk.nil⟩
 obtain⟨q,hq1,hq2,hq3,hq4⟩:=z6u cl2 1 2
 have HR:=zhd (z7q (n:=1073741824) hq2 hq3 hq4 hq1 (by omega) ht2 (nilB (F:=Dt c2)) (nilB (F:=Dt c2)) (by simp) (by simp))
 have HF2:=zhd (f1.trans0 F2)
 have A2:Hid (Ag w.heap.size c c2):=zhd (fun b hb=>(ag2 b (by have:=f1.size;omega)).trans (ag1 b hb))
 have HW2:=zhd hw2
 clear hw2 F2 hb2 hs2 cl2 e7 ht2 hq1 hq2 hq3 hq4 HO f1 ag1 cl1 ag2 hc2 ht
 have hlc:LocCells tp 0 []=#[.pointer (some ⟨tp,0,none⟩),.int .i64 0,.int .i64 0,.int .i64 0,.int .i64 0,.int .i64 0,.int .i64 0,.int .i64 0,.int .i64 0,.int .i64 0,.int .i64 0,.int .i64 0,.int .i64 0,.int .i64 0,.int .i64 0,.int .i64 0,.int .i64 0,.int .i64 0]:=by rfl
 rw[hlc] at HW2
 clear hlc
 go_wp2_with fail
 rw[←HW2.out]
 refine HR.out.mono ?_
 rintro e w3 ⟨f3,v3,c3,rfl,-,-,o3⟩
 obtain⟨A3,p3,hv3,-⟩:=o3.form
 rw[show(rangeL [] [] (rootL (TSt.empty (newD n) 0 d).now)).take 1073741824=[] from rfl,List.length_nil] at hv3
 subst hv3
 have F3:=zhd f3
 clear f3 o3
 go_wp2_with fail
 refine wp_loop_rounds 1 ?_;rw[rounds_succ]
 go_wp2_with fail
 go_ret2
 exact⟨_,rfl,zhd ⟨HF2.out.trans0 F3.out,tp,c2,A2.out,HL.out.fr0 F3.out⟩⟩
theorem zbi {sp tp:Nat} {Z:TSt} (h:LocAt c w sp tp Z 0) (hem:rootL Z.now=[]) :
 Calls Tryz.prog 46 #[.pointer (some ⟨sp,0,none⟩)] w fun e w'=>∃dp,e=.returned (.tuple #[.pointer (some ⟨dp,0,none⟩),.int .i64 0])∧Hid (Fr C0 w w'∧∃c',Ag w.heap.size c c'∧DrfAt c' w' dp sp tp Z (.slice none 0 0) []):=by
 have HD:=zhd h.dead
 have c0:=h.c0
 have HL:=zhd h
 clear h
 go_enter Tryz.func46,Tryz.ntmps46
 go_wp2_with fail
 refine HD.out.mono ?_
 rintro e w1 ⟨rfl,hw1⟩
 have F1:=zhd (show Fr C0 w w1 from by rw[hw1];exact(Fr.refl _ w).drew)
 have hs1:w1.heap.size=w.heap.size:=by rw[hw1];rfl
 have HS1:=zhd hs1
 clear hw1 HD hs1
 go_wp2_with fail
 go_ret2
 obtain⟨c2,hc2⟩:∃c2:Nat→Nat,c2=fun b=>if b=w1.heap.size then 7 else c b:=⟨_,rfl⟩
 have ag2:Ag w.heap.size c c2:=fun b hb=>by
  have:=HS1.out
  rw[hc2]
  show(if b=w1.heap.size then 7 else c b)=c b
  rw[if_neg (by omega)]
 have F2:Fr C0 w (w1.alloc (.cells #[.pointer (some ⟨sp,0,none⟩),.slice none 0 0] 102)):=F1.out.alloc _
 have cl2:Cl (w1.alloc (.cells #[.pointer (some ⟨sp,0,none⟩),.slice none 0 0] 102)) c2:=fun b hb=>by
  have h3:w1.heap.size+1≤b:=by simpa using hb
  have:=HS1.out
  rw[hc2]
  show(if b=w1.heap.size then 7 else c b)=0
  rw[if_neg (by omega)]
  exact HL.out.cl b (by omega)
 refine⟨_,rfl,zhd ⟨F2,c2,ag2,HL.out.mv7 F2 ag2 cl2 (fun b e=>e.elim) (fun e=>e.elim),hem,heap_alloc_new w1 _,by rw[hc2];exact if_pos rfl,⟨[],World.ownsRow_nil _ _ _ _,.nil⟩,fun b e=>by simp[Value.ownBlock] at e,by simp⟩⟩
theorem zbj:Calls Tryz.prog 46 #[.pointer none] w fun e w'=>e=.returned (.tuple #[.pointer none,.int .i64 1])∧w=w':=by
 go_enter Tryz.func46,Tryz.ntmps46
 go_wp2_with fail
 go_ret2
 exact⟨rfl,rfl⟩
theorem zbk (hc:Cl w c) :
 Calls Tryz.prog 11 #[] w fun e w'=>∃dp sp,e=.returned (.tuple #[.pointer (some ⟨dp,0,none⟩),.pointer (some ⟨sp,0,none⟩)])∧Hid (Fr C0 w w'∧∃tp Z c',Ag w.heap.size c c'∧DrfAt c' w' dp sp tp Z (.slice none 0 0) []):=by
 have HN:=zhd (z2k w 1000 (by omega) (by omega))
 have HC:=zhd hc
 clear hc
 go_enter Tryz.func11,Tryz.ntmps11
 go_wp2_with fail
 refine HN.out.mono ?_
 rintro e w1 ⟨rfl,f1,hs1,hd1⟩
 obtain⟨c1,hc1,hc2,hag,hcl⟩:∃c1:Nat→Nat,c1 (w.heap.size+1)=1∧c1 w.heap.size=1∧Ag w.heap.size c c1∧Cl w1 c1:=by
  refine⟨fun b=>if b=w.heap.size∨b=w.heap.size+1 then 1 else c b,by simp,by simp,fun b hb=>?_,fun b hb=>?_⟩
  · simp only[];rw[if_neg (by omega)]
  · simp only[];rw[if_neg (by omega)];exact HC.out b (by omega)
 have HO1:=zhd (zbh (n:=1000) (hd1.mono fun b hb _=>hb.elim) hc1 hc2 hcl (by omega) (by omega))
 have F1:=zhd f1
 have HS1:=zhd hs1
 have HAG:=zhd hag
 clear HN f1 hs1 hd1 hc1 hc2 hag hcl
 go_wp2_with fail
 refine HO1.out.mono ?_
 rintro e w2 ⟨sp,rfl,H2⟩
 obtain⟨f2,tp,c2,ag2,hl2⟩:=H2.out
 have HN2:=zhd (zbi hl2 rfl)
 have F2:=zhd f2
 have A2:=zhd ag2
 clear H2 f2 ag2 hl2 HO1
 go_wp2_with fail
 refine HN2.out.mono ?_
 rintro e w3 ⟨dp,rfl,H3⟩
 go_wp2_with fail
 go_ret2
 obtain⟨f3,c3,ag3,hd3⟩:=H3.out
 exact⟨dp,sp,rfl,zhd ⟨(F1.out.trans0 F2.out).trans0 f3,tp,_,c3,fun b hb=>by
  have h1:=F1.out.size
  have h2:=F2.out.size
  exact(ag3 b (by omega)).trans ((A2.out b (by omega)).trans (HAG.out b hb)),hd3⟩⟩
end
section
open Go.RowKit Go.H Go.Shelf Go.Sort
set_option maxHeartbeats 2000000
def laySC_ren : Go.Shelf.Ren := ⟨fun | 6 => 54 | 15 => 80 | 14 => 79 | 28 => 107 | 29 => 108 | 20 => 99 | 21 => 100 | 22 => 101 | 23 => 102 | 24 => 103 | 25 => 104 | 26 => 105 | 27 => 106 | 46 => 134 | 47 => 135 | 48 => 136 | 49 => 137 | 50 => 138 | 57 => 155 | n => n, fun | 22 => 31 | 24 => 57 | 25 => 109 | 3 => 3 | 39 => 146 | 0 => 0 | 53 => 182 | 55 => 61 | 4 => 4 | 46 => 176 | 45 => 175 | 50 => 93 | 5 => 5 | 9 => 9 | 66 => 211 | 70 => 215 | 76 => 238 | 77 => 153 | n => n, fun | n => n⟩
theorem zbl:Go.Proofs.SlLaysF0.n6 Tryz.prog laySC_ren:={
 mixed:=by kernel_rfl
 f6:=⟨Tryz.f54.name,by decide,Tryz.func54.trans (congrArg some (by kernel_rfl))⟩
 f14:=⟨Tryz.f79.name,by decide,Tryz.func79.trans (congrArg some (by kernel_rfl))⟩
 f15:=Tryz.func80.trans (congrArg some (by kernel_rfl))
 f20:=⟨Tryz.f99.name,by decide,Tryz.func99.trans (congrArg some (by kernel_rfl))⟩
 f21:=⟨Tryz.f100.name,by decide,Tryz.func100.trans (congrArg some (by kernel_rfl))⟩
 f22:=⟨Tryz.f101.name,by decide,Tryz.func101.trans (congrArg some (by kernel_rfl))⟩
 f23:=⟨Tryz.f102.name,by decide,Tryz.func102.trans (congrArg some (by kernel_rfl))⟩
 f24:=⟨Tryz.f103.name,by decide,Tryz.func103.trans (congrArg some (by kernel_rfl))⟩
 f25:=⟨Tryz.f104.name,by decide,Tryz.func104.trans (congrArg some (by kernel_rfl))⟩
 f26:=⟨Tryz.f105.name,by decide,Tryz.func105.trans (congrArg some (by kernel_rfl))⟩
 f27:=⟨Tryz.f106.name,by decide,Tryz.func106.trans (congrArg some (by kernel_rfl))⟩
 f28:=Tryz.func107.trans (congrArg some (by kernel_rfl))
 f29:=Tryz.func108.trans (congrArg some (by kernel_rfl))
 f46:=⟨Tryz.f134.name,by decide,Tryz.func134.trans (congrArg some (by kernel_rfl))⟩
 f47:=Tryz.func135.trans (congrArg some (by kernel_rfl))
 f48:=Tryz.func136.trans (congrArg some (by kernel_rfl))
 f49:=⟨Tryz.f137.name,by decide,Tryz.func137.trans (congrArg some (by kernel_rfl))⟩
 f50:=⟨Tryz.f138.name,by decide,Tryz.func138.trans (congrArg some (by kernel_rfl))⟩
 f57:=⟨Tryz.f155.name,by decide,Tryz.func155.trans (congrArg some (by kernel_rfl))⟩
 t0:=Tryz.underlying0
 a0:=Tryz.isAgg0
 z0:=Tryz.sizeOf0
 v0:=Tryz.zeroValue0
 t3:=Tryz.underlying3
 a3:=Tryz.isAgg3
 z3:=Tryz.sizeOf3
 v3:=Tryz.zeroValue3
 t4:=Tryz.underlying4
 a4:=Tryz.isAgg4
 z4:=Tryz.sizeOf4
 v4:=Tryz.zeroValue4
 t5:=Tryz.underlying5
 a5:=Tryz.isAgg5
 z5:=Tryz.sizeOf5
 v5:=Tryz.zeroValue5
 t9:=Tryz.underlying9
 a9:=Tryz.isAgg9
 z9:=Tryz.sizeOf9
 v9:=Tryz.zeroValue9
 t22:=Tryz.underlying31
 a22:=Tryz.isAgg31
 z22:=Tryz.sizeOf31
 v22:=Tryz.zeroValue31
 t25:=Tryz.underlying109
 a25:=Tryz.isAgg109
 z25:=Tryz.sizeOf109
 v25:=Tryz.zeroValue109
 t39:=Tryz.underlying146
 a39:=Tryz.isAgg146
 z39:=Tryz.sizeOf146
 v39:=Tryz.zeroValue146
 t45:=Tryz.underlying175
 a45:=Tryz.isAgg175
 z45:=Tryz.sizeOf175
 v45:=Tryz.zeroValue175
 t46:=Tryz.underlying176
 a46:=Tryz.isAgg176
 z46:=Tryz.sizeOf176
 v46:=Tryz.zeroValue176
 t50:=Tryz.underlying93
 a50:=Tryz.isAgg93
 z50:=Tryz.sizeOf93
 v50:=Tryz.zeroValue93
 t53:=Tryz.underlying182
 a53:=Tryz.isAgg182
 z53:=Tryz.sizeOf182
 v53:=Tryz.zeroValue182
 t55:=Tryz.underlying61
 a55:=Tryz.isAgg61
 z55:=Tryz.sizeOf61
 v55:=Tryz.zeroValue61
 t66:=Tryz.underlying211
 a66:=Tryz.isAgg211
 z66:=Tryz.sizeOf211
 v66:=Tryz.zeroValue211
 t70:=Tryz.underlying215
 a70:=Tryz.isAgg215
 z70:=Tryz.sizeOf215
 v70:=Tryz.zeroValue215
 t76:=Tryz.underlying238
 a76:=Tryz.isAgg238
 z76:=Tryz.sizeOf238
 v76:=Tryz.zeroValue238
 t77:=Tryz.underlying153
 a77:=Tryz.isAgg153
 z77:=Tryz.sizeOf153
 v77:=Tryz.zeroValue153 }
theorem zbm {F G:Nat→Prop} {w:World} {x y:Chg} {ku vu kv vv:Value} (hx:BytesAt F w ku x.key) (hxv:BytesAt F w vu x.value) (hy:BytesAt F w kv y.key) (hyv:BytesAt F w vv y.value) (hs:(0≤x.space∧x.space<16)∧0≤y.space∧y.space<16) :
 Calls Tryz.prog 55 #[.agg #[.int .i64 x.space,ku,vu,.bool x.gone],.agg #[.int .i64 y.space,kv,vv,.bool y.gone]] w fun e w'=>e=.returned (.int .i64 (cmpC x y))∧∃q os',w'=grow (w.drewN q) os':=by
 obtain⟨s,k,v,g⟩:=x
 obtain⟨s',k',v',g'⟩:=y
 simp only at *
 have HE:=zhd (fun (w_:World) (hf:Fr C0 w w_)=>z5c (hx.fr0 hf) (hy.fr0 hf))
 obtain⟨KA,kc,rfl,-⟩:=hx.form
 obtain⟨VA,vc,rfl,-⟩:=hxv.form
 obtain⟨YA,yc,rfl,-⟩:=hy.form
 obtain⟨ZA,zc,rfl,-⟩:=hyv.form
 have hw:IntKind.i64.wrap (s-s')=s-s':=by rw[IntKind.wrap_i64];omega
 have F1:=zhd (((Fr.refl C0 w).alloc (.cells #[.int .i64 s,.slice KA k.length kc,.slice VA v.length vc,.bool g] 57)).alloc (.cells #[.int .i64 s',.slice YA k'.length yc,.slice ZA v'.length zc,.bool g'] 57))
 clear hx hxv hy hyv hs
 by_cases hs:s=s'
 · subst hs
   go_enter Tryz.func55,Tryz.ntmps55
   go_wp2_with fail
   refine(HE.out _ F1.out).mono ?_
   rintro e w2 ⟨rfl,rfl⟩
   go_wp2_with fail
   go_ret
   refine⟨?_,0,_,by rw[alloc_eq_grow,alloc_eq_grow,grow_grow];rfl⟩
   simp[cmpC]
 · have hb:(s != s')=true:=by simp[bne,z28];exact hs
   have HS:=zhd hs
   clear hs
   go_enter Tryz.func55,Tryz.ntmps55
   go_wp2_with fail
   go_ret
   refine⟨?_,0,_,by rw[alloc_eq_grow,alloc_eq_grow,grow_grow];rfl⟩
   simp[cmpC,HS.out]
abbrev ChgV (G:Nat→Prop) (w:World):={q:Chg×Value×Value // (BytesAt G w q.2.1 q.1.key∧BytesAt G w q.2.2 q.1.value)∧0≤q.1.space∧q.1.space<16}
instance {G:Nat→Prop} {w:World}:Inhabited (ChgV G w):=⟨⟨(⟨0,[],[],false⟩,.slice none 0 0,.slice none 0 0),⟨nilB,nilB⟩,by decide⟩⟩
def encC {G:Nat→Prop} {w:World} (q:ChgV G w):List Value:=[.int .i64 q.1.1.space,q.1.2.1,q.1.2.2,.bool q.1.1.gone]
theorem zbn {G:Nat→Prop} {w:World}:∀{ys:List Value} {M:List Chg},ChgCells G w ys M→(∀x∈M,0≤x.space∧x.space<16)→∃d:List (ChgV G w),(d.map encC).flatten=ys∧d.map (fun q=>q.1.1)=M
 |_,_,.nil,_=>⟨[],rfl,rfl⟩
 | _, _, .cons (x := x) (kv := kv) (vv := vv) h1 h2 h3, hs => by
   obtain⟨d,e1,e2⟩:=zbn h3 (fun x hx=>hs x (List.mem_cons_of_mem _ hx))
   exact⟨⟨(x,kv,vv),⟨h1,h2⟩,hs x (by simp)⟩::d,by simp[encC,e1],by simp[e2]⟩
theorem zbo {G:Nat→Prop} {w:World}:∀d:List (ChgV G w),ChgCells G w ((d.map encC).flatten) (d.map fun q=>q.1.1)
 |[]=>.nil
 | q :: d => by
   rw[List.map_cons,List.flatten_cons,List.map_cons]
   exact .cons q.2.1.1 q.2.1.2 (zbo d)
theorem swoC {G:Nat→Prop} {w:World}:SWO (ltOf fun x y:ChgV G w=>cmpC x.1.1 y.1.1) where
 irrefl x:=by
  unfold ltOf
  rw[decide_eq_false_iff_not,z8g]
  exact z8h _
 trans x y z h1 h2:=by
  unfold ltOf at *
  rw[decide_eq_true_iff,z8g] at *
  exact z8i h1 h2
 ntrans x y z h1 h2:=by
  unfold ltOf at *
  rw[decide_eq_false_iff_not,z8g] at *
  exact z8j h1 h2
theorem zbp {G:Nat→Prop} {w:World} {N g cap:Nat} {M:List Chg} {ys:List Value} (h:w.ownsRow N 57 4 (.slice (some ⟨g,0,none⟩) M.length cap) M.length ys) (hc:ChgCells G w ys M) (hG:∀b,G b→N≤b∧¬b=g) (hs:∀x∈M,0≤x.space∧x.space<16) (hm:M.length≤100000) :
 Calls Tryz.prog 54 #[.slice (some ⟨g,0,none⟩) M.length cap,.func (.func 55) #[] #[]] w fun e w'=>e=.returned (.tuple #[])∧Hid (Fr (fun b=>b=g) w w'∧∃M',M'.Perm M∧M'.Pairwise (fun a b=>¬clt b a)∧OutC N w' (.slice (some ⟨g,0,none⟩) M.length cap) M'):=by
 obtain⟨d,hd1,hd2⟩:=zbn hc hs
 have hdl:d.length=M.length:=by rw[←hd2,List.length_map]
 have hgl:g<w.heap.size:=(h.lt g rfl).2
 have hno:∀b,G b→¬b=g:=fun b hb=>(hG b hb).2
 have eg:∀args w,(callFunc 55 args).run Tryz.prog w=.ok (.enter 55 args) w:=enters_of Tryz.func55 (by kernel_rfl) rfl
 have hcmp:CmpLays Tryz.prog 55 #[] encC 4 (fun x y:ChgV G w=>cmpC x.1.1 y.1.1) g 0 d.toArray.size w:=fun m os dk _ x y=>by
  have f:=za1 (enc:=encC) (k:=4) w g dk m os
  have tr:∀{u:Value} {z:Bs},BytesAt G w u z→BytesAt (fun _=>True) (sortWorldK encC 4 w g 0 m dk os) u z:=fun hb=>(hb.fr f hno).mono (fun _ _ _=>trivial)
  exact zbm (G:=fun _=>True) (tr x.2.1.1) (tr x.2.1.2) (tr y.2.1.1) (tr y.2.1.2) ⟨x.2.2,y.2.2⟩
 have h0:w.ownsRow N 57 4 (.slice (some ⟨g,0,none⟩) d.length cap) d.length ((d.map encC).flatten):=by rw[hd1,hdl];exact h
 have hcon:=AnyQ.slices_SortFunc zbl 4 (fun _=>by kernel_rfl) (fun _=>by kernel_rfl) encC (fun _=>rfl) (fun x v hv=>by
  obtain⟨_,_,e1,_⟩:=x.2.1.1.form
  obtain⟨_,_,e2,_⟩:=x.2.1.2.form
  simp only[encC,List.mem_cons,List.not_mem_nil,or_false] at hv
  rcases hv with rfl|rfl|rfl|rfl
  · rfl
  · rw[e1];rfl
  · rw[e2];rfl
  · rfl) (fun x y=>cmpC x.1.1 y.1.1) swoC 55 #[] g 0 cap d.toArray w eg hcmp (za3 h0 (fun _=>rfl) (by decide)) hgl (by simp;omega)
 rw[List.size_toArray,hdl] at hcon
 refine Calls.mono (show Calls Tryz.prog 54 _ _ _ from hcon) ?_
 rintro e w' ⟨rfl,d',n,os,hp,hso,rfl⟩
 obtain⟨l,rfl⟩:∃l:List _,d'=l.toArray:=⟨d'.toList,by simp⟩
 rw[←hdl] at hp hso
 have hpl:=za5 hp
 have hll:=hpl.length_eq
 rw[←hll] at hso
 have hsl:=za4 hso
 refine⟨rfl,zhd ⟨za1 _ _ _ _ _,l.map (fun q=>q.1.1),by rw[←hd2];exact hpl.map _,?_,?_⟩⟩
 · rw[List.pairwise_map]
   refine hsl.imp fun {a b} hab=>?_
   unfold ltOf at hab
   rw[decide_eq_false_iff_not,z8g] at hab
   exact hab
 · have ho:=za2 (n:=n) rfl h0 (fun _=>rfl) (by decide) hll os
   rw[hll,hdl] at ho
   exact⟨(l.map encC).flatten,by rw[List.length_map,hll,hdl];exact ho,((zbo l).fr (za1 _ _ _ _ _) hno).mono (fun b hb _=>⟨(hG b hb).1,fun e=>(hG b hb).2 (by injection e with e;exact e.symm)⟩)⟩
end
section
open Go.RowKit Go.H Go.Shelf Go.Sort
set_option maxHeartbeats 2000000
theorem zbq {w:World} {f:Value}:Calls Tryz.prog 99 #[.slice none 0 0,.int .i64 0,.int .i64 0,f] w fun e w'=>e=.returned (.tuple #[])∧w=w':=by
 go_enter Tryz.func99,Tryz.ntmps99
 go_wp2_with fail
 refine wp_loop_rounds 1 ?_;rw[rounds_succ]
 go_wp2_with fail
 go_end0
 exact⟨rfl,rfl⟩
theorem zbr {w:World} {l:Int} {f:Value}:Calls Tryz.prog 79 #[.slice none 0 0,.int .i64 0,.int .i64 0,.int .i64 l,f] w fun e w'=>e=.returned (.tuple #[])∧w=w':=by
 go_enter Tryz.func79,Tryz.ntmps79
 go_wp2_with fail
 refine wp_loop_rounds 1 ?_;rw[rounds_succ]
 go_wp2_with fail
 refine zbq.mono ?_
 rintro e w2 ⟨rfl,rfl⟩
 go_wp2_with fail
 refine bodyPost_ret_by (v:=.tuple #[]) (results_none rfl _ _ _) rfl ?_
 exact⟨rfl,rfl⟩
theorem zbs {w:World}:Calls Tryz.prog 80 #[.int .u64 0] w fun e w'=>e=.returned (.int .i64 0)∧w=w':=by
 have h:=Any.bits_Len (SlLaysF0.n15.bits (P:=Tryz.prog) { zbl with }) (0:Int) w (by omega) (by omega)
 refine Calls.mono (show Calls Tryz.prog 80 _ _ _ from h) ?_
 rintro e w' ⟨rfl,rfl⟩
 exact⟨rfl,rfl⟩
theorem zbt {w:World} {f:Value}:Calls Tryz.prog 54 #[.slice none 0 0,f] w fun e w'=>e=.returned (.tuple #[])∧w=w':=by
 go_enter Tryz.func54,Tryz.ntmps54
 go_wp2_with fail
 refine zbs.mono ?_
 rintro e w2 ⟨rfl,rfl⟩
 go_wp2_with fail
 refine zbr.mono ?_
 rintro e w2 ⟨rfl,rfl⟩
 go_wp2_with fail
 go_end0
 exact⟨rfl,rfl⟩
theorem zbu {w:World} {N:Nat} {ov:Value} {M:List Chg} (h:OutC N w ov M) (hs:∀x∈M,0≤x.space∧x.space<16) (hm:M.length≤100000) :
 Calls Tryz.prog 54 #[ov,.func (.func 55) #[] #[]] w fun e w'=>e=.returned (.tuple #[])∧Hid (Fr (fun b=>ov.ownBlock=some b) w w'∧∃M',M'.Perm M∧M'.Pairwise (fun a b=>¬clt b a)∧OutC N w' ov M'):=by
 obtain⟨ys,ho,hc⟩:=h
 rcases ho.2 with⟨rfl,h0⟩|⟨g,cap,cur,rfl,-⟩
 · have hM:M=[]:=List.eq_nil_of_length_eq_zero h0
   subst hM
   refine zbt.mono ?_
   rintro e w' ⟨rfl,rfl⟩
   exact⟨rfl,zhd ⟨Fr.refl _ _,[],.refl _,.nil,OutC.nil⟩⟩
 · refine(zbp ho hc (fun b hb=>⟨hb.1,fun e=>hb.2 (by rw[e];rfl)⟩) hs hm).mono ?_
   rintro e w' ⟨rfl,H⟩
   obtain⟨f,M',h1,h2,h3⟩:=H.out
   have hl:=h1.length_eq
   exact⟨rfl,zhd ⟨f.mono fun b _ e=>by rw[show b=g from e];rfl,M',h1,h2,h3⟩⟩
variable {c c' : Nat → Nat} {w w' : World} {dp sp tp : Nat} {Z : TSt} {lv : Value} {L : List Chg}
theorem zbv (h:DrfAt c w dp sp tp Z lv L) (hL:L.length≤100000) :
 Calls Tryz.prog 15 #[.pointer (some ⟨dp,0,none⟩)] w fun e w'=>∃ov,e=.returned ov∧Hid (Fr C0 w w'∧∃M,M.Perm (lastsD L)∧M.Pairwise clt∧OutC w.heap.size w' ov M):=by
 refine zan h hL (zhd fun w1 ov f1 o1=>?_)
 have hsp:∀x∈lastsD L,0≤x.space∧x.space<16:=fun x hx=>by
  have:=z8m (h.ok x (z8a hx))
  exact⟨this.1,this.2.1⟩
 refine(zbu o1 hsp (Nat.le_trans (zam L) hL)).mono ?_
 rintro e w' ⟨rfl,H⟩
 obtain⟨f,M',p1,p2,p3⟩:=H.out
 obtain⟨ys,ho,-⟩:=o1
 refine⟨rfl,zhd ⟨f1.transO f (fun b e=>(ho.lt b e).1),M',p1,z8k ?_ p2,p3⟩⟩
 exact(z8b L).perm p1.symm (fun h e=>h ⟨e.1.symm,e.2.symm⟩)
end
section
open Go.RowKit Go.H
set_option maxHeartbeats 1000000
structure Stg7 (c0:Nat→Nat) (a:World) (c:Nat→Nat) (w:World) (dp sp tp:Nat) (Z:TSt) (lv:Value) (L:List Chg):Prop where
 ag:Ag a.heap.size c0 c
 fr:Fr (fun b=>c0 b=7) a w
 d:DrfAt c w dp sp tp Z lv L
theorem Stg7.next {c0 c c':Nat→Nat} {a w w':World} {dp sp tp:Nat} {Z:TSt} {lv lv':Value} {L L':List Chg} (h:Stg7 c0 a c w dp sp tp Z lv L) (ag:Ag w.heap.size c c') (f:Fr (fun b=>c b=7) w w') (d:DrfAt c' w' dp sp tp Z lv' L'):Stg7 c0 a c' w' dp sp tp Z lv' L':=
 ⟨fun b hb=>(ag b (Nat.lt_of_lt_of_le hb h.fr.size)).trans (h.ag b hb),h.fr.trans f (fun b hb e=>by rw[←h.ag b hb];exact e),d⟩
theorem Stg7.fr0 {c0 c:Nat→Nat} {a w w':World} {dp sp tp:Nat} {Z:TSt} {lv:Value} {L:List Chg} (h:Stg7 c0 a c w dp sp tp Z lv L) (f:Fr C0 w w'):Stg7 c0 a c w' dp sp tp Z lv L:=
 ⟨h.ag,h.fr.trans0 f,h.d.fr0 f⟩
theorem Stg7.start {c:Nat→Nat} {w:World} {dp sp tp:Nat} {Z:TSt} {lv:Value} {L:List Chg} (h:DrfAt c w dp sp tp Z lv L):Stg7 c w c w dp sp tp Z lv L:=⟨Ag.refl _ _,Fr.refl _ _,h⟩
theorem Stg7.bytes {c0 c:Nat→Nat} {a w:World} {dp sp tp:Nat} {Z:TSt} {lv kv:Value} {L:List Chg} {k:Bs} (h:Stg7 c0 a c w dp sp tp Z lv L) (hk:BytesAt (fun b=>c0 b≠7) a kv k):BytesAt (fun b=>c0 b≠7) w kv k:=hk.fr h.fr (fun _ h=>h)
theorem Stg7.new {c0 c cb:Nat→Nat} {b0 a w:World} {dp sp tp:Nat} {Z:TSt} {lv:Value} {L:List Chg} (h:Stg7 c0 a c w dp sp tp Z lv L) (f:Fr C0 b0 a) (ag:Ag b0.heap.size cb c0) (h7:∀b,cb b≠7):Fr C0 b0 w:=
 (f.mono (fun _ _ e=>e.elim)).trans h.fr (fun b hb e=>h7 b (by rw[←ag b hb];exact e))
@[go_sem] theorem zbw (w : World) : (binOp .eql 9 (.string ⟨#[107]⟩) (.string ⟨#[107]⟩)).run Tryz.prog w = .ok (.bool true) w := by kernel_rfl
theorem zbx (w:World):Calls Tryz.prog 17 #[] w fun e w'=>e=.returned (.bool true)∧Fr C0 w w':=by
 have HN:=zhd (zbk (w:=w) (c:=fun _=>0) (fun _ _=>rfl))
 go_enter Tryz.func17,Tryz.ntmps17
 go_wp2_with fail
 refine HN.out.mono ?_
 rintro e w1 ⟨dp,sp,rfl,H1⟩
 obtain⟨f1,tp,Z,c1,ag1,d1⟩:=H1.out
 have F1:=zhd f1
 have A1:=zhd ag1
 have D1:=zhd d1
 clear HN H1 f1 ag1 d1
 go_wp2_with fail
 refine zbj.mono ?_
 rintro e w2 ⟨rfl,rfl⟩
 have hcv1:=Go.Joins.run_convert_bytes_const_at (P:=Tryz.prog) w1 40 5 #[.int .u8 107] 1 1 w1.heap.size rfl Tryz.underlying40 Tryz.underlying5
 go_wp2_with fail
 clear hcv1
 have g3:=(Fr.refl C0 w1).alloc (.cells #[.int .u8 107] 5 (1,2))
 have hba:=heap_alloc_new w1 (.cells #[.int .u8 107] 5 (1,2))
 have B3:Hid (BytesAt (fun b=>c1 b≠7) (w1.alloc (.cells #[.int .u8 107] 5 (1,2))) (.slice (some ⟨w1.heap.size,0,none⟩) 1 1) [107]):=zhd (z0h.2 (Row.ofBlock (n:=1) (size:=1) hba (by rw[D1.out.cl _ (Nat.le_refl _)];decide) (by unfold maxLen;omega) rfl))
 have S3:=zhd (Stg7.start (D1.out.fr0 g3))
 have F3:=zhd (F1.out.trans0 g3)
 clear hba g3 F1 D1
 generalize w1.alloc (.cells #[.int .u8 107] 5 (1,2))=w3 at *
 refine(z8x (s:=1) S3.out.d B3.out B3.out (by simp)).mono ?_
 rintro e w4 ⟨rfl,H4⟩
 obtain⟨c4,lv4,ag4,f4,d4⟩:=H4.out
 have S4:=zhd (S3.out.next ag4 f4 d4)
 rw[if_pos (show rightL 1 [107] [107] false=0 by decide),List.nil_append] at S4
 clear H4 ag4 f4 d4
 go_wp2_with fail
 refine(z8y S4.out.d).mono ?_
 rintro e w5 ⟨rfl,rfl⟩
 go_wp2_with fail
 refine(z9a (s:=1) S4.out.d (S4.out.bytes B3.out) (by simp)).mono ?_
 rintro e w6 ⟨rfl,H6⟩
 obtain⟨c6,lv6,ag6,f6,d6⟩:=H6.out
 have S6:=zhd (S4.out.next ag6 f6 d6)
 rw[if_pos (show rightL 1 [107] [] false=0 by decide),List.singleton_append] at S6
 clear H6 ag6 f6 d6 S4
 go_wp2_with fail
 refine(zah (s:=1) S6.out.d (S6.out.bytes B3.out) (by simp)).mono ?_
 rintro e w7 ⟨v7,ok7,rfl,H7⟩
 obtain⟨f7,h7⟩:=H7.out
 obtain⟨rfl,-⟩:=(h7 (by decide)).2 ⟨1,[107],[],true⟩ (by rfl)
 have S7:=zhd (S6.out.fr0 f7)
 clear H7 f7 h7 S6
 go_wp2_with fail
 refine(z99 (n:=1) S7.out.d).mono ?_
 rintro e w8 ⟨rfl,H8⟩
 obtain⟨lv8,f8,d8⟩:=H8.out
 have S8:=zhd (S7.out.next (Ag.refl _ _) f8 d8)
 rw[if_neg (by simp),show([⟨1,[107],[107],false⟩,⟨1,[107],[],true⟩]:List Chg).take (1:Int).toNat=[⟨1,[107],[107],false⟩] from rfl] at S8
 clear H8 f8 d8 S7
 go_wp2_with fail
 refine(zah (s:=1) S8.out.d (S8.out.bytes B3.out) (by simp)).mono ?_
 rintro e w9 ⟨v9,ok9,rfl,H9⟩
 obtain⟨f9,h9⟩:=H9.out
 obtain⟨rfl,b9⟩:=(h9 (by decide)).2 ⟨1,[107],[107],false⟩ (by rfl)
 have S9:=zhd (S8.out.fr0 f9)
 have B9:=zhd b9
 clear H9 f9 h9 S8 b9
 go_wp2_with fail
 refine(z91 (s:=1) S9.out.d.s (S9.out.bytes B3.out)).mono ?_
 rintro e w10 ⟨A10,m10,p10,rfl,H10⟩
 have f10:=H10.out.1
 have S10:=zhd (S9.out.fr0 f10)
 have B10:=zhd (B9.out.fr0 f10)
 have hem:=S9.out.d.em
 rw[hem,show getL (pk (1:Int).toNat [107]) []=none from rfl,show(decide (rightL 1 [107] [] false=0) && (none:Option Bs).isSome)=false from by simp]
 clear H10 f10 S9 B9 hem
 have HCH:=zhd (zbv S10.out.d (by simp))
 have HPT:=zhd (fun (w_:World) (hf:Fr C0 w10 w_)=>z8x (s:=1) (S10.out.d.fr0 hf) (nilB (F:=fun _=>True)) (nilB (F:=fun _=>True)) (by simp))
 have FN:=zhd (S10.out.new F3.out A1.out (fun _=>by decide))
 obtain⟨A9,p9,rfl,-⟩:=B10.out.form
 have hst:(convert 40 9 (.slice A9 1 p9)).run Tryz.prog w10=.ok (.string ⟨#[107]⟩) w10:=z23 B10.out
 go_wp2_with fail
 refine HCH.out.mono ?_
 rintro e w11 ⟨ov,rfl,H11⟩
 obtain⟨f11,M,hM,-,o11⟩:=H11.out
 have hml:M.length=1:=hM.length_eq
 obtain⟨A11,p11,rfl⟩:=o11.form
 rw[hml]
 have F11:=zhd f11
 clear H11 f11 o11 hM hml HCH
 go_wp2_with fail
 refine(HPT.out _ F11.out).mono ?_
 rintro e w12 ⟨rfl,H12⟩
 obtain⟨c12,lv12,ag12,f12,d12⟩:=H12.out
 have S12:=((S10.out.fr0 F11.out).next ag12 f12 d12)
 have FE:=zhd (S12.new F3.out A1.out (fun _=>by decide))
 clear H12 ag12 f12 d12 S12
 go_wp2
 go_ret
 exact⟨rfl,FE.out⟩
end
end Go.Proofs.YtidalepbkljkpaaGreat
