import Derived.Test.YtcmicdcikechkaaGreatPlays03
import Derived.Deep.DeepMust
set_option linter.all false
set_option autoImplicit true
set_option relaxedAutoImplicit true
namespace Go.Proofs.YtcmicdcikechkaaGreat
open Go.RowKit Go.H
set_option maxHeartbeats 1000000
set_option maxRecDepth 100000
section
theorem z2u (h:BytesAt F w v l):(convert 30 9 v).run Tryz.prog w=.ok (.string ⟨l.toArray⟩) w:=z16 h Tryz.underlying30 Tryz.underlying5 Tryz.underlying9
@[go_sem] theorem z2v (n c : Nat) (w : World) : (binOp .eql 30 (.slice none n c) (.slice none 0 0)).run Tryz.prog w = .ok (.bool true) w := Lib.run_eql_slice_nil w 30 5 none n c 0 0 Tryz.underlying30
@[go_sem] theorem z2x (a : Addr) (n c : Nat) (w : World) : (binOp .eql 30 (.slice (some a) n c) (.slice none 0 0)).run Tryz.prog w = .ok (.bool false) w := Lib.run_eql_slice_nil w 30 5 (some a) n c 0 0 Tryz.underlying30
@[go_sem] theorem z2y (w : World) : (Instr.buildSlice 30 0 #[]).run Tryz.prog w = .ok (.slice (some ⟨w.heap.size, 0, none⟩) 0 0) (w.alloc (.cells #[] 5)) := by kernel_rfl
theorem z2z {α:Type} [BEq α] [LawfulBEq α] [DecidableEq α] (a b:α):(a == b)=decide (a=b):=by by_cases h:a=b<;>simp[h]
theorem z30 (ha:BytesAt F w u a) (hb:BytesAt G w v b):
 Calls Tryz.prog 115 #[u,v] w fun e w'=>e=.returned (.bool (decide (a=b)))∧w=w':=by
 have h1:=z2u ha
 have h2:=z2u hb
 have HE:=zhd (z17 a b)
 obtain⟨A,c,rfl,-⟩:=ha.form
 obtain⟨A',c',rfl,-⟩:=hb.form
 clear ha hb
 go_enter Tryz.func115,Tryz.ntmps115
 go_wp2
 go_ret
 refine⟨?_,rfl⟩
 simp[z2z]
theorem z31 (h:BytesAt F w v l) (hn:l.length≤100000):
 Calls Tryz.prog 42 #[v] w fun e w'=>∃v',e=.returned v'∧Fr C0 w w'∧w'.ownsRow w.heap.size 5 1 v' l.length (l.map bv):=by
 have HR:=zhd (h.row.mono (F':=fun b=>b<w.heap.size) (fun b _ h=>h))
 obtain⟨A,c,rfl,h1,h2⟩:=h.form
 cases A with
 | none =>
   have hl:l=[]:=by
    cases l with
    |nil=>rfl
    |cons x l=>obtain⟨A',c',he,_,_,h3⟩:=h;injection he with e1;subst e1;obtain⟨g,o,h4,_⟩:=h3 (by simp);cases h4
   subst hl
   go_enter Tryz.func42,Tryz.ntmps42
   go_wp2
   go_ret
   exact⟨_,rfl,Fr.refl _ _,World.ownsRow_nil _ _ _ _⟩
 | some a =>
   go_enter Tryz.func42,Tryz.ntmps42
   go_wp2_with (at_builtin;go_must (refine z0l z2k rfl _ _ rfl (v:=.slice (some ⟨w.heap.size,0,none⟩) 0 0) (xv:=.slice (some a) l.length c) rfl rfl (B:=w.heap.size) (World.ownsRow_lit w #[] 0 (Nat.le_refl _) (by unfold maxLen;omega) rfl) (HR.out.fr0 ((Fr.refl C0 w).alloc _)) (z15 l) (by unfold maxLen;omega) (by omega) (by simp) ?_);intro v2 w2 o2 f2 k2 nil2)
   go_ret
   refine⟨v2,rfl,((Fr.refl C0 w).alloc _).transO f2 (fun b e=>by simp[Value.ownBlock] at e;omega),by simpa using o2⟩
theorem z32 (h:BytesAt F w v l) (hn:l.length≤100000):
 Calls Tryz.prog 42 #[v] w fun e w'=>∃v',e=.returned v'∧Fr C0 w w'∧BytesAt (fun b=>w.heap.size≤b) w' v' l:=by
 refine(z31 h hn).mono ?_
 rintro e w' ⟨v',rfl,f,o⟩
 exact⟨v',rfl,f,BytesAt.ofOwn o (fun b e=>(o.lt b e).1)⟩
theorem mkn (n:Nat) (hn:n≤100000) (w:World):(Instr.makeSlice 30 (.int .i64 n) (.int .i64 n)).run Tryz.prog w=.ok (.slice (some ⟨w.heap.size,0,none⟩) n n) (w.alloc (.cells (zerosV n).toArray 5)):=by
 obtain⟨i,h1,h2,h3,h4⟩:=info_parts (P:=Tryz.prog) (e:=5) (z:=.int .u8 0) (size:=1) (bytes:=1) (by kernel_rfl)
 have:=run_make (P:=Tryz.prog) w 30 5 i (.int .u8 0) z2k.u h1 h2 .i64 .i64 n n (by omega) (Int.le_refl _) (by rw[h4];omega) (by omega)
 rw[this]
 simp only[Int.toNat_natCast,h3,Nat.mul_one,Value.cells]
 congr 3
 apply Array.toList_inj.1
 rw[toList_madeCells_one]
 simp[bv,zerosV]
theorem mk8k (w:World):(Instr.makeSlice 30 (.int .i64 8192) (.int .i64 8192)).run Tryz.prog w=.ok (.slice (some ⟨w.heap.size,0,none⟩) 8192 8192) (w.alloc (.cells (zerosV 8192).toArray 5)):=mkn 8192 (by omega) w
theorem z33 (h:BytesAt F w v l) (hn:l.length≤100000):
 Calls Tryz.prog 113 #[v] w fun e w'=>e=.returned (.bool (decide (l=List.replicate l.length 0)))∧Fr C0 w w':=by
 have HR:=zhd h
 obtain⟨A,c,rfl,h1,h2⟩:=h.form
 have hmk:=mkn l.length hn
 go_enter Tryz.func113,Tryz.ntmps113
 go_wp2_with fail
 refine(z30 (HR.out.fr0 ((Fr.refl C0 w).alloc _)) (F:=F) (G:=fun b=>w.heap.size≤b) (b:=List.replicate l.length 0) ?_).mono ?_
 · refine z0i.2 ?_
   have:=Row.ofBlock (F:=fun b=>w.heap.size≤b) (n:=l.length) (size:=1) (heap_alloc_new w (.cells (zerosV l.length).toArray 5)) (Nat.le_refl _) (by unfold maxLen;omega) (by simp[zerosV])
   simpa [zerosV] using this
 rintro e w1 ⟨rfl,rfl⟩
 go_wp2
 go_ret
 exact⟨rfl,(Fr.refl C0 w).alloc _⟩
end
section
abbrev DiskA:=DiskAt 123 153
theorem z34 (h:BytesAt F w v l) (hn:l.length≤8192):
 Calls Tryz.prog 105 #[v] w fun e w'=>e=.returned (.slice (some ⟨w.heap.size,0,none⟩) 8192 8192)∧w'.heap[w.heap.size]?=some (.cells ((padB l).map bv).toArray 5 (0,0))∧Fr C0 w w':=by
 have HR:=zhd h.row
 obtain⟨A,c,rfl,h1,h2⟩:=h.form
 clear h
 have hm:=mk8k
 go_enter Tryz.func105,Tryz.ntmps105
 go_wp2_with (go_loud (refine z1g z2k rfl _ _ rfl (g:=w.heap.size) (off:=0) (dLen:=8192) (dCap:=8192) rfl rfl (heap_alloc_new w _) (HR.out.fr0 ((Fr.refl C0 w).alloc _)) (z15 l) (by simp[z1e];omega) ?_);intro w1 h1 f1)
 rw[z24 hn] at h1
 go_ret
 exact⟨rfl,h1,((Fr.refl C0 w).alloc _).trans f1 (fun i hi e=>absurd e (by omega))⟩
end
section
theorem z35 {m:Nat} (h:KeptAt F w m L) (k:Int):
 ∃v,(Instr.lookup 120 (.map (some m)) (.int .i64 k) false).run Tryz.prog w=.ok v w∧BytesAt F w v ((aget k L).getD [])∧((aget k L).getD []).length≤8192:=by
 obtain⟨M,h1,h2⟩:=h
 have hz:(zeroValue 30).run Tryz.prog w=.ok (.slice none 0 0) w:=by kernel_rfl
 have hl:=z08 (P:=Tryz.prog) (T:=120) (K:=3) (E:=30) Tryz.underlying120 Tryz.underlying3 hz h1 k false
 rcases z29 h2 (k:=k) with⟨v,b,e1,e2,e3,e4⟩|⟨e1,e2⟩
 · refine⟨v,?_,by rw[e2];exact e3,by rw[e2];exact e4⟩
   rw[hl,z1t,e1];rfl
 · refine⟨.slice none 0 0,?_,by rw[e2];exact⟨none,0,rfl,Nat.le_refl _,by unfold maxLen;omega,fun h=>absurd rfl h⟩,by rw[e2];simp⟩
   rw[hl,z1t,e1];rfl
theorem z36 {d m:Nat} (h:DiskA F w d m ov s) (k:Nat):
 Calls Tryz.prog 112 #[.pointer (some ⟨d,0,none⟩),.int .i64 (k:Int)] w fun e w'=>e=.returned (.slice (some ⟨w.heap.size,0,none⟩) 8192 8192)∧w'.heap[w.heap.size]?=some (.cells ((s.good k).map bv).toArray 5 (0,0))∧Fr C0 w w':=by
 have hb:=h.blk
 have h1:=z2g hb 1 rfl
 obtain⟨v,hl,hv,hn⟩:=z35 h.kept k
 have HW:=zhd (z34 hv hn)
 clear h hv hn hb
 go_enter Tryz.func112,Tryz.ntmps112
 go_wp2_with fail
 refine HW.out.mono ?_
 rintro e w' ⟨rfl,h2,h3⟩
 go_wp2
 go_ret
 exact⟨rfl,h2,h3⟩
theorem z37 {d m:Nat} (h:DiskA F w d m ov s):
 Calls Tryz.prog 92 #[.pointer (some ⟨d,0,none⟩)] w fun e w'=>e=.returned (.int .i64 s.blocks)∧w=w':=by
 have h1:=z2g h.blk 0 rfl
 clear h
 go_enter Tryz.func92,Tryz.ntmps92
 go_wp2
 go_ret
 exact⟨rfl,rfl⟩
theorem z38 {d m:Nat} (h:DiskA F w d m ov s):
 Calls Tryz.prog 26 #[.pointer (some ⟨d,0,none⟩)] w fun e w'=>e=.returned (.bool s.down)∧w=w':=by
 have h1:=z2g h.blk 3 rfl
 clear h
 go_enter Tryz.func26,Tryz.ntmps26
 go_wp2
 go_ret
 exact⟨rfl,rfl⟩
theorem z39 {d m:Nat} (h:DiskA F w d m ov s):
 Calls Tryz.prog 93 #[.pointer (some ⟨d,0,none⟩)] w fun e w'=>e=.returned (.int .i64 s.life)∧w=w':=by
 have h1:=z2g h.blk 4 rfl
 clear h
 go_enter Tryz.func93,Tryz.ntmps93
 go_wp2
 go_ret
 exact⟨rfl,rfl⟩
theorem z3a {d m:Nat} (h:DiskA F w d m ov s) (ha:s.after<1):
 Calls Tryz.prog 104 #[.pointer (some ⟨d,0,none⟩)] w fun e w'=>e=.returned (.bool false)∧w=w':=by
 have h1:=z2g h.blk 5 rfl
 clear h
 go_enter Tryz.func104,Tryz.ntmps104
 go_wp2
 go_ret
 exact⟨rfl,rfl⟩
@[go_sem] theorem z3b (w : World) : (Instr.makeMap 120 none).run Tryz.prog w = .ok (.map (some w.heap.size)) (w.alloc (.map #[] 0)) := by kernel_rfl
@[go_sem] theorem z3c (w : World) : (Instr.makeMap 74 none).run Tryz.prog w = .ok (.map (some w.heap.size)) (w.alloc (.map #[] 0)) := by kernel_rfl
theorem z3d (w:World) (n:Nat) (h1:1≤n) (h2:n≤4096) :
 Calls Tryz.prog 37 #[.int .i64 (n:Int)] w fun e w'=>e=.returned (.tuple #[.pointer (some ⟨w.heap.size+1,0,none⟩),.int .i64 0])∧Fr C0 w w'∧w'.heap.size=w.heap.size+2∧DiskA (fun _=>False) w' (w.heap.size+1) w.heap.size (.slice none 0 0) ⟨n,[],[],false,0,0,0,0,0⟩:=by
 go_enter Tryz.func37,Tryz.ntmps37
 go_wp2
 go_ret2
 refine⟨rfl,((Fr.refl C0 w).alloc _).alloc _,by simp,⟨?_,?_,⟨[],World.ownsRow_nil _ _ _ _,.nil⟩,by simp⟩⟩
 · have:=heap_alloc_new (w.alloc (.map #[] 0)) (.cells #[.int .i64 n,.map (some w.heap.size),.slice none 0 0,.bool false,.int .i64 0,.int .i64 0,.int .u64 0,.int .i64 0,.int .i64 0] 123)
   simpa using this
 · refine⟨[],(MapIs.made w).fr ((Fr.refl C0 _).alloc _) (fun h=>h),.nil⟩
end
section
theorem z3e {d m:Nat} (h:DiskA F w d m ov s) (hd:s.down=false) (k:Nat) (hk:k<s.blocks):
 Calls Tryz.prog 94 #[.pointer (some ⟨d,0,none⟩),.int .i64 (k:Int)] w fun e w'=>e=.returned (.tuple #[.slice (some ⟨w.heap.size,0,none⟩) 8192 8192,.int .i64 0])∧w'.heap[w.heap.size]?=some (.cells ((s.read k).map bv).toArray 5 (0,0))∧Fr C0 w w':=by
 have h0:=z2g h.blk 0 rfl
 have h2:=z2g h.blk 2 rfl
 have h3:=z2g h.blk 3 rfl
 have HG:=zhd (z36 h k)
 obtain⟨xs,o1,o2⟩:=h.opn
 have HR:=zhd (Row.ofOwn o1 (F:=fun b=>True) (fun _ _=>trivial))
 have HO:=zhd o2
 have hs:=h.small
 obtain⟨A,c,rfl,hc1,hc2⟩:=HR.out.form
 clear h o1 o2
 rw[hd] at h3
 go_enter Tryz.func94,Tryz.ntmps94
 go_wp2
 go_loopw [4,5,6] (fun a b i wr=>∃n:Nat,n≤s.opn.length∧a=.slice none 0 0∧b=.int .i64 0∧i=.int .i64 ((n:Int)-1)∧wr=w∧Hid (lastOpen k (s.opn.take n)=lastOpen k s.opn)) (fun _ _ i _=>(intOf i+1).toNat)
 case atStart=>exact⟨s.opn.length,Nat.le_refl _,rfl,rfl,by go_num,rfl,zhd (by rw[List.take_length])⟩
 case round=>
  obtain⟨n,hn,rfl,rfl,rfl,rfl,HA⟩:=hrel
  cases n with
  | succ n =>
    have HT:=zhd (z28 (k:=k) (l:=s.opn) (n:=n) hn)
    obtain⟨q1,v,q2,q3,q4⟩:=HO.out.at_ n hn
    obtain⟨g,o,rfl,_,hc⟩:=HR.out.cells q1
    have r1:=hc _ _ q1
    have r2:wr.cell? ⟨g,o+n*2+1,none⟩=some v:=hc _ _ q2
    have HW:=zhd (z34 q3 (Nat.le_of_eq q4))
    clear q1 q2 q3 q4 hc HO HR
    have e1:(n:Int)+1-1=(n:Int):=by omega
    by_cases hat:s.opn[n].1=k
    · rw[if_pos hat] at HT
      rw[hat] at r1
      go_wp2_with fail
      refine HW.out.mono ?_
      rintro e w' ⟨rfl,h4,h5⟩
      go_wp2
      go_ret2
      refine⟨rfl,?_,h5⟩
      rw[h4,DSt.read,←HA.out,HT.out]
    · rw[if_neg hat] at HT
      have hat2:¬(s.opn[n].1:Int)=(k:Int):=by omega
      go_wp2
      go_roundw
      case rel=>exact⟨n,by omega,rfl,rfl,by go_num,by trivial,zhd (by rw[←HT.out];exact HA.out)⟩
      case measure=>simp[intOf]
  | zero =>
    clear HO HR
    go_wp2_with fail
    refine HG.out.mono ?_
    rintro e w' ⟨rfl,h4,h5⟩
    go_wp2
    go_ret2
    refine⟨rfl,?_,h5⟩
    have:=HA.out
    rw[h4,DSt.read,←this]
    rfl
end
section
theorem z3f {d m k n:Nat} (h:DiskA F w d m ov s) (hv:BytesAt F w v b) (hb:b.length=8192) (hn:n≤8192) (hF:∀b,w.heap.size≤b→F b) (hm:¬F m) (hdm:d≠m) (hom:∀b,ov.ownBlock=some b→b≠m):
 Calls Tryz.prog 89 #[.pointer (some ⟨d,0,none⟩),.agg #[.int .i64 (k:Int),v],.int .i64 (n:Int)] w fun e w'=>e=.returned (.tuple #[])∧DiskA F w' d m ov (s.lay k b n)∧Fr (fun b=>b=m) w w':=by
 have HG:=zhd (z36 (h.fr0 ((Fr.refl C0 w).alloc (.cells #[.int .i64 (k:Int),v] 153))) k)
 have HD:=zhd h
 have HV:=zhd (show Row F w v 8192 1 (b.map bv) by rw[←hb];exact hv.row)
 have h1:=z2g h.blk 1 rfl
 obtain⟨A,c,rfl,hc1,hc2⟩:=hv.form
 have HK:(s.good k).length=8192:=h.good_length k
 rw[hb] at hc1 HV HG⊢
 clear h hv
 go_enter Tryz.func89,Tryz.ntmps89
 go_wp2_with fail
 refine HG.out.mono ?_
 rintro e w1 ⟨rfl,g1,f1⟩
 go_wp2
 have HF1:Hid (Fr C0 w w1):=((Fr.refl C0 w).alloc _).trans0 f1
 have b0:=f1.cell0 (z2g (heap_alloc_new w (.cells #[.int .i64 (k:Int),.slice A 8192 c] 153)) 0 rfl)
 have b1:=f1.cell0 (z2g (heap_alloc_new w (.cells #[.int .i64 (k:Int),.slice A 8192 c] 153)) 1 rfl)
 have G1:=zhd g1;clear g1
 have hnc:n≤c:=by omega
 have hn8:(n:Int)≤8192:=by omega
 have hnc2:(n:Int)≤(c:Int):=by omega
 refine z1r (Fr (fun b=>b=w.heap.size+1) w1) [7] (by kernel_rfl) ?_
 have hSw0:(Fr (fun b=>b=w.heap.size+1) w1) _:=(Fr.refl _ w1).drew
 refine tk 0 hSw0 ?_
 refine tk 1 hSw0 ?_
 refine tk 2 hSw0 ?_
 refine tk 3 hSw0 ?_
 refine tk 4 hSw0 ?_ (hy:=by intro w_ hS_;have b2:=hS_.cell b1 (show ¬w.heap.size=w.heap.size+1 by omega);first|(go_simp;done)|(go_simp;with_reducible rfl))
 refine tk 5 hSw0 ?_
 refine tk 6 hSw0 ?_
 refine z1o 7 rfl (fun K hK=>?_)
 refine z1h z2k _ _ rfl (g:=w.heap.size+1) (off:=0) (dLen:=n) (dCap:=8192) rfl rfl (cur:=(s.good k).map bv) ((Fr.refl C0 w1).drew.blk (by simpa using G1.out) (fun h=>h)) (((HV.out.fr0 HF1.out).take hn).fr0 (Fr.refl C0 w1).drew) (z0p (z15 b)) (by rw[Nat.zero_add,List.length_map,HK];omega) ?_
 intro w2 g2 f2
 have hSw1:=hSw0.trans f2 (fun _ _ h=>h)
 refine hK.out _ _ ?_;clear hK K
 try simp only[Act.put,zs1,zs2,zs3]
 refine z1q (by kernel_rfl) ?_ _
 have HF2:Hid (Fr C0 w w2):=HF1.out.trans hSw1 (fun i hi h=>absurd h (by omega))
 have G2:Hid (w2.heap[w.heap.size+1]?=some (.cells ((b.take n++(s.good k).drop n).map bv).toArray 5 (0,0))):=by
  refine zhd ?_
  rw[g2,z26 (by omega)]
 have b0:=hSw1.cell b0 (show ¬w.heap.size=w.heap.size+1 by omega)
 have d1:=HF2.out.cell0 h1
 clear g2 h1 b1
 obtain⟨M,m1,m2⟩:=HD.out.kept
 have HM:=zhd (m1.fr HF2.out (fun h=>h))
 have HBY:Hid (BytesAt F w2 (.slice (some ⟨w.heap.size+1,0,none⟩) 8192 8192) (b.take n++(s.good k).drop n)):=by
  refine zhd (z0i.2 ?_)
  have:=Row.ofBlock (F:=F) (n:=8192) (size:=1) G2.out (hF _ (by omega)) (by unfold maxLen;omega) (by simp[hb,HK];omega)
  have hl:(b.take n++(s.good k).drop n).length=8192:=by simp[hb,HK];omega
  rw[hl]
  simpa using this
 clear m1
 go_wp2
 refine z1r (Fr C0 w2) [7] (by kernel_rfl) ?_
 have hSw0:(Fr C0 w2) _:=(Fr.refl _ w2).drew
 refine tk 0 hSw0 ?_
 refine tk 1 hSw0 ?_
 refine tk 2 hSw0 ?_
 refine tk 3 hSw0 ?_ (hy:=by intro w_ hS_;have b2:=hS_.cell0 b0;have d2:=hS_.cell0 d1;first|(go_simp;done)|(go_simp;with_reducible rfl))
 refine tk 4 hSw0 ?_
 refine tk 5 hSw0 ?_ (hy:=by intro w_ hS_;have b2:=hS_.cell0 b0;have d2:=hS_.cell0 d1;first|(go_simp;done)|(go_simp;with_reducible rfl))
 refine tk 6 hSw0 ?_
 refine z1o 7 rfl (fun K hK=>?_)
 refine z1v Tryz.underlying120 Tryz.underlying3 _ _ _ rfl rfl rfl rfl (HM.out.fr hSw0 (fun h=>h)) ?_
 intro w3 n3 f3
 have hSw3:=hSw0
 refine hK.out _ _ ?_;clear hK K
 try simp only[Act.put,zs1,zs2,zs3]
 refine z1q (by kernel_rfl) ?_ _
 clear HV
 go_wp2
 go_end0
 have F3:Fr (fun b=>b=m) w w3:=(HF2.out.mono (fun _ _ h=>h.elim)).trans ((hSw3.mono (fun _ _ h=>h.elim)).trans f3 (fun _ _ h=>h)) (fun _ _ h=>h)
 have F4:Fr (fun b=>b=m) w2 w3:=(hSw3.mono (fun _ _ h=>h.elim)).trans f3 (fun _ _ h=>h)
 refine⟨rfl,⟨?_,?_,?_,HD.out.small⟩,F3⟩
 · exact F3.blk HD.out.blk hdm
 · have hFm:∀b,F b→¬b=m:=fun b hb h=>hm (h▸hb)
   exact KeptAt.set (m2.imp fun _ _ h=>⟨h.1,h.2.1.fr F3 hFm,h.2.2⟩) n3 (HBY.out.fr F4 hFm) (by rw[List.length_append,List.length_take,List.length_drop,HK];omega)
 · obtain⟨xs,o1,o2⟩:=HD.out.opn
   exact⟨xs,z0m o1 F3 hom,o2.fr F3 (fun b hb h=>hm (h▸hb))⟩
end
end Go.Proofs.YtcmicdcikechkaaGreat
