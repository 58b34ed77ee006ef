import Derived.Test.YtidalepbkljkpaaGreatLocalSpaces03
import Derived.Test.YtidalepbkljkpaaGreatLocalSpaces02
import Derived.LoopN
import Derived.Deep.DeepMust
set_option linter.all false
namespace Go.Proofs.YtidalepbkljkpaaGreat
open Go.RowKit Go.H
set_option maxHeartbeats 1000000
set_option maxRecDepth 100000
section
theorem mk1 (w:World):(Instr.makeSlice 40 (.int .i64 1) (.int .i64 1)).run Tryz.prog w=.ok (.slice (some ⟨w.heap.size,0,none⟩) 1 1) (w.alloc (.cells #[.int .u8 0] 5)):=by kernel_rfl
theorem mk2 (w:World):(Instr.makeSlice 40 (.int .i64 2) (.int .i64 2)).run Tryz.prog w=.ok (.slice (some ⟨w.heap.size,0,none⟩) 2 2) (w.alloc (.cells #[.int .u8 0,.int .u8 0] 5)):=by kernel_rfl
theorem z2u (n:Nat) (hn:n<128) (w:World):Calls Tryz.prog 122 #[.int .i64 n] w fun e w'=>∃v',e=.returned v'∧Fr C0 w w'∧w'.ownsRow w.heap.size 5 1 v' 1 [bv (UInt8.ofNat n)]:=by
 have hm:=mk1
 go_enter Tryz.func122,Tryz.ntmps122
 go_wp2
 refine wp_loop_rounds 1 ?_;rw[rounds_succ]
 go_wp2
 refine wp_loop_rounds 2 ?_;rw[rounds_succ]
 go_wp2
 rw[rounds_succ]
 go_wp2
 go_ret
 refine⟨_,rfl,(Fr.refl _ w).alloc _,?_⟩
 have e:Value.int IntKind.u8 (bits BinOp.and IntKind.i64 (↑n) 127 % 256)=bv (UInt8.ofNat n):=by
  rw[z0u (by omega) (by omega)];simp[bv]<;>omega
 rw[e]
 exact World.ownsRow_lit w #[bv (UInt8.ofNat n)] 1 (Nat.le_refl _) (by unfold maxLen;omega) rfl
theorem z2v (n:Nat) (hn:128≤n) (hn2:n<16384) (w:World):Calls Tryz.prog 122 #[.int .i64 n] w fun e w'=>∃v',e=.returned v'∧Fr C0 w w'∧w'.ownsRow w.heap.size 5 1 v' 2 [bv (UInt8.ofNat (128+n / 128)),bv (UInt8.ofNat (n % 128))]:=by
 have hm:=mk2
 go_enter Tryz.func122,Tryz.ntmps122
 go_wp2
 refine wp_loop_rounds 2 ?_;rw[rounds_succ]
 go_wp2
 rw[rounds_succ]
 go_wp2
 refine wp_loop_rounds 3 ?_;rw[rounds_succ]
 go_wp2
 rw[rounds_succ]
 go_wp2
 rw[rounds_succ]
 go_wp2
 go_ret
 refine⟨_,rfl,(Fr.refl _ w).alloc _,?_⟩
 have e1:Value.int IntKind.u8 (bits BinOp.and IntKind.i64 (↑n) 127 % 256)=bv (UInt8.ofNat (n % 128)):=by
  rw[z0u (by omega) (by omega)];simp[bv]<;>omega
 have e2:Value.int IntKind.u8 (bits BinOp.or IntKind.u8 (bits BinOp.and IntKind.i64 (↑n / 128) 127 % 256) 128)=bv (UInt8.ofNat (128+n / 128)):=by
  rw[z0u (by omega) (by omega),z0x (by omega) (by omega)];simp[bv]<;>omega
 rw[e1,e2]
 exact World.ownsRow_lit w #[bv (UInt8.ofNat (128+n / 128)),bv (UInt8.ofNat (n % 128))] 2 (Nat.le_refl _) (by unfold maxLen;omega) rfl
theorem z2x (n:Nat) (hn2:n<16384) (w:World):Calls Tryz.prog 122 #[.int .i64 n] w fun e w'=>∃v',e=.returned v'∧Fr C0 w w'∧w'.ownsRow w.heap.size 5 1 v' (uintB n).length ((uintB n).map bv):=by
 unfold uintB
 by_cases h:n<128
 · rw[if_pos h];exact z2u n h w
 · rw[if_neg h];exact z2v n (by omega) hn2 w
end
section
theorem z2y {F:Nat→Prop} {w:World} {v:Value} {l:List UInt8} (h:BytesAt F w v l):(convert 40 9 v).run Tryz.prog w=.ok (.string ⟨l.toArray⟩) w:=z1d h Tryz.underlying40 Tryz.underlying5 Tryz.underlying9
@[go_sem] theorem z2z (n c : Nat) (w : World) : (binOp .eql 40 (.slice none n c) (.slice none 0 0)).run Tryz.prog w = .ok (.bool true) w := Lib.run_eql_slice_nil w 40 5 none n c 0 0 Tryz.underlying40
@[go_sem] theorem z30 (a : Addr) (n c : Nat) (w : World) : (binOp .eql 40 (.slice (some a) n c) (.slice none 0 0)).run Tryz.prog w = .ok (.bool false) w := Lib.run_eql_slice_nil w 40 5 (some a) n c 0 0 Tryz.underlying40
@[go_sem] theorem z31 (w : World) : (Instr.buildSlice 40 0 #[]).run Tryz.prog w = .ok (.slice (some ⟨w.heap.size, 0, none⟩) 0 0) (w.alloc (.cells #[] 5)) := by kernel_rfl
theorem z32 {α:Type} [BEq α] [LawfulBEq α] [DecidableEq α] (a b:α):(a == b)=decide (a=b):=by by_cases h:a=b<;>simp[h]
theorem z33 {F G:Nat→Prop} {w:World} {u v:Value} {a b:List UInt8} (ha:BytesAt F w u a) (hb:BytesAt G w v b) :
 Calls Tryz.prog 52 #[u,v] w fun e w'=>e=.returned (.bool (decide (a=b)))∧w=w':=by
 have h1:=z2y ha
 have h2:=z2y hb
 have HE:=zhd (z1e a b)
 obtain⟨A,c,rfl,-⟩:=ha.form
 obtain⟨A',c',rfl,-⟩:=hb.form
 clear ha hb
 go_enter Tryz.func52,Tryz.ntmps52
 go_wp2
 go_ret
 refine⟨?_,rfl⟩
 simp[z32]
theorem z34 {F:Nat→Prop} {w:World} {v:Value} {l:List UInt8} (h:BytesAt F w v l) (hn:l.length≤100000) :
 Calls Tryz.prog 144 #[v] w fun e w'=>∃v',e=.returned v'∧Fr C0 w w'∧w'.ownsRow w.heap.size 5 1 v' l.length (l.map bv):=by
 have HR:=zhd (h.row.mono (F':=fun b=>b<w.heap.size) (fun b _ h=>h))
 obtain⟨A,c,rfl,h1,h2⟩:=h.form
 cases A with
 | none =>
   have hl:l=[]:=by
    cases l with
    |nil=>rfl
    |cons x l=>obtain⟨A',c',he,_,_,h3⟩:=h;injection he with e1;subst e1;obtain⟨g,o,h4,_⟩:=h3 (by simp);cases h4
   subst hl
   go_enter Tryz.func144,Tryz.ntmps144
   go_wp2
   go_ret
   exact⟨_,rfl,Fr.refl _ _,World.ownsRow_nil _ _ _ _⟩
 | some a =>
   go_enter Tryz.func144,Tryz.ntmps144
   go_wp2_with (at_builtin;go_must (refine z0l z2o rfl _ _ rfl (v:=.slice (some ⟨w.heap.size,0,none⟩) 0 0) (xv:=.slice (some a) l.length c) rfl rfl (B:=w.heap.size) (World.ownsRow_lit w #[] 0 (Nat.le_refl _) (by unfold maxLen;omega) rfl) (HR.out.fr0 ((Fr.refl C0 w).alloc _)) (z1c l) (by unfold maxLen;omega) (by omega) (by simp) ?_);intro v2 w2 o2 f2 k2 nil2)
   go_ret
   refine⟨v2,rfl,((Fr.refl C0 w).alloc _).transO f2 (fun b e=>by simp[Value.ownBlock] at e;omega),by simpa using o2⟩
theorem z35 {F:Nat→Prop} {w:World} {v:Value} {l:List UInt8} (h:BytesAt F w v l) (hn:l.length≤100000) :
 Calls Tryz.prog 144 #[v] w fun e w'=>∃v',e=.returned v'∧Fr C0 w w'∧BytesAt (fun b=>w.heap.size≤b) w' v' l:=by
 refine(z34 h hn).mono ?_
 rintro e w' ⟨v',rfl,f,o⟩
 exact⟨v',rfl,f,BytesAt.ofOwn o (fun b e=>(o.lt b e).1)⟩
theorem mkn (n:Nat) (hn:n≤100000) (w:World):(Instr.makeSlice 40 (.int .i64 n) (.int .i64 n)).run Tryz.prog w=.ok (.slice (some ⟨w.heap.size,0,none⟩) n n) (w.alloc (.cells (zerosV n).toArray 5)):=by
 obtain⟨i,h1,h2,h3,h4⟩:=info_parts (P:=Tryz.prog) (e:=5) (z:=.int .u8 0) (size:=1) (bytes:=1) (by kernel_rfl)
 have:=run_make (P:=Tryz.prog) w 40 5 i (.int .u8 0) z2o.u h1 h2 .i64 .i64 n n (by omega) (Int.le_refl _) (by rw[h4];omega) (by omega)
 rw[this]
 simp only[Int.toNat_natCast,h3,Nat.mul_one,Value.cells]
 congr 3
 apply Array.toList_inj.1
 rw[toList_madeCells_one]
 simp[bv,zerosV]
theorem mk8k (w:World):(Instr.makeSlice 40 (.int .i64 8192) (.int .i64 8192)).run Tryz.prog w=.ok (.slice (some ⟨w.heap.size,0,none⟩) 8192 8192) (w.alloc (.cells (zerosV 8192).toArray 5)):=mkn 8192 (by omega) w
theorem z36 {F:Nat→Prop} {w:World} {v:Value} {l:List UInt8} (h:BytesAt F w v l) (hn:l.length≤100000) :
 Calls Tryz.prog 139 #[v] w fun e w'=>e=.returned (.bool (decide (l=List.replicate l.length 0)))∧Fr C0 w w':=by
 have HR:=zhd h
 obtain⟨A,c,rfl,h1,h2⟩:=h.form
 have hmk:=mkn l.length hn
 go_enter Tryz.func139,Tryz.ntmps139
 go_wp2_with fail
 refine(z33 (HR.out.fr0 ((Fr.refl C0 w).alloc _)) (F:=F) (G:=fun b=>w.heap.size≤b) (b:=List.replicate l.length 0) ?_).mono ?_
 · refine z0i.2 ?_
   have:=Row.ofBlock (F:=fun b=>w.heap.size≤b) (n:=l.length) (size:=1) (heap_alloc_new w (.cells (zerosV l.length).toArray 5)) (Nat.le_refl _) (by unfold maxLen;omega) (by simp[zerosV])
   simpa [zerosV] using this
 rintro e w1 ⟨rfl,rfl⟩
 go_wp2
 go_ret
 exact⟨rfl,(Fr.refl C0 w).alloc _⟩
end
section
abbrev DiskA:=DiskAt 113 125
theorem z37 {F:Nat→Prop} {w:World} {v:Value} {l:Bs} (h:BytesAt F w v l) (hn:l.length≤8192) :
 Calls Tryz.prog 125 #[v] w fun e w'=>e=.returned (.slice (some ⟨w.heap.size,0,none⟩) 8192 8192)∧w'.heap[w.heap.size]?=some (.cells ((padB l).map bv).toArray 5 (0,0))∧Fr C0 w w':=by
 have HR:=zhd h.row
 obtain⟨A,c,rfl,h1,h2⟩:=h.form
 clear h
 have hm:=mk8k
 go_enter Tryz.func125,Tryz.ntmps125
 go_wp2_with (go_loud (refine z1n z2o rfl _ _ rfl (g:=w.heap.size) (off:=0) (dLen:=8192) (dCap:=8192) rfl rfl (heap_alloc_new w _) (HR.out.fr0 ((Fr.refl C0 w).alloc _)) (z1c l) (by simp[z1l];omega) ?_);intro w1 h1 f1)
 rw[z29 hn] at h1
 go_ret
 exact⟨rfl,h1,((Fr.refl C0 w).alloc _).trans f1 (fun i hi e=>absurd e (by omega))⟩
end
section
theorem z38 {F:Nat→Prop} {w:World} {m:Nat} {L:List (Int×Bs)} (h:KeptAt F w m L) (k:Int) :
 ∃v,(Instr.lookup 110 (.map (some m)) (.int .i64 k) false).run Tryz.prog w=.ok v w∧BytesAt F w v ((aget k L).getD [])∧((aget k L).getD []).length≤8192:=by
 obtain⟨M,h1,h2⟩:=h
 have hz:(zeroValue 40).run Tryz.prog w=.ok (.slice none 0 0) w:=by kernel_rfl
 have hl:=z08 (P:=Tryz.prog) (T:=110) (K:=3) (E:=40) Tryz.underlying110 Tryz.underlying3 hz h1 k false
 rcases z2d h2 (k:=k) with⟨v,b,e1,e2,e3,e4⟩|⟨e1,e2⟩
 · refine⟨v,?_,by rw[e2];exact e3,by rw[e2];exact e4⟩
   rw[hl,z21,e1];rfl
 · refine⟨.slice none 0 0,?_,by rw[e2];exact⟨none,0,rfl,Nat.le_refl _,by unfold maxLen;omega,fun h=>absurd rfl h⟩,by rw[e2];simp⟩
   rw[hl,z21,e1];rfl
theorem z39 {F:Nat→Prop} {w:World} {d m:Nat} {ov:Value} {s:DSt} (h:DiskA F w d m ov s) (k:Nat) :
 Calls Tryz.prog 95 #[.pointer (some ⟨d,0,none⟩),.int .i64 (k:Int)] w fun e w'=>e=.returned (.slice (some ⟨w.heap.size,0,none⟩) 8192 8192)∧w'.heap[w.heap.size]?=some (.cells ((s.good k).map bv).toArray 5 (0,0))∧Fr C0 w w':=by
 have hb:=h.blk
 have h1:=z2k hb 1 rfl
 obtain⟨v,hl,hv,hn⟩:=z38 h.kept k
 have HW:=zhd (z37 hv hn)
 clear h hv hn hb
 go_enter Tryz.func95,Tryz.ntmps95
 go_wp2_with fail
 refine HW.out.mono ?_
 rintro e w' ⟨rfl,h2,h3⟩
 go_wp2
 go_ret
 exact⟨rfl,h2,h3⟩
theorem z3a {F:Nat→Prop} {w:World} {d m:Nat} {ov:Value} {s:DSt} (h:DiskA F w d m ov s) :
 Calls Tryz.prog 109 #[.pointer (some ⟨d,0,none⟩)] w fun e w'=>e=.returned (.int .i64 s.blocks)∧w=w':=by
 have h1:=z2k h.blk 0 rfl
 clear h
 go_enter Tryz.func109,Tryz.ntmps109
 go_wp2
 go_ret
 exact⟨rfl,rfl⟩
theorem z3b {F:Nat→Prop} {w:World} {d m:Nat} {ov:Value} {s:DSt} (h:DiskA F w d m ov s) :
 Calls Tryz.prog 38 #[.pointer (some ⟨d,0,none⟩)] w fun e w'=>e=.returned (.bool s.down)∧w=w':=by
 have h1:=z2k h.blk 3 rfl
 clear h
 go_enter Tryz.func38,Tryz.ntmps38
 go_wp2
 go_ret
 exact⟨rfl,rfl⟩
theorem z3c {F:Nat→Prop} {w:World} {d m:Nat} {ov:Value} {s:DSt} (h:DiskA F w d m ov s) :
 Calls Tryz.prog 97 #[.pointer (some ⟨d,0,none⟩)] w fun e w'=>e=.returned (.int .i64 s.life)∧w=w':=by
 have h1:=z2k h.blk 4 rfl
 clear h
 go_enter Tryz.func97,Tryz.ntmps97
 go_wp2
 go_ret
 exact⟨rfl,rfl⟩
theorem z3d {F:Nat→Prop} {w:World} {d m:Nat} {ov:Value} {s:DSt} (h:DiskA F w d m ov s) (ha:s.after<1) :
 Calls Tryz.prog 184 #[.pointer (some ⟨d,0,none⟩)] w fun e w'=>e=.returned (.bool false)∧w=w':=by
 have h1:=z2k h.blk 5 rfl
 clear h
 go_enter Tryz.func184,Tryz.ntmps184
 go_wp2
 go_ret
 exact⟨rfl,rfl⟩
@[go_sem] theorem z3e (w : World) : (Instr.makeMap 110 none).run Tryz.prog w = .ok (.map (some w.heap.size)) (w.alloc (.map #[] 0)) := by kernel_rfl
@[go_sem] theorem z3f (w : World) : (Instr.makeMap 136 none).run Tryz.prog w = .ok (.map (some w.heap.size)) (w.alloc (.map #[] 0)) := by kernel_rfl
theorem z3g (w:World) (n:Nat) (h1:1≤n) (h2:n≤4096) :
 Calls Tryz.prog 21 #[.int .i64 (n:Int)] w fun e w'=>e=.returned (.tuple #[.pointer (some ⟨w.heap.size+1,0,none⟩),.int .i64 0])∧Fr C0 w w'∧w'.heap.size=w.heap.size+2∧DiskA (fun _=>False) w' (w.heap.size+1) w.heap.size (.slice none 0 0) ⟨n,[],[],false,0,0,0,0,0⟩:=by
 go_enter Tryz.func21,Tryz.ntmps21
 go_wp2
 go_ret2
 refine⟨rfl,((Fr.refl C0 w).alloc _).alloc _,by simp,⟨?_,?_,⟨[],World.ownsRow_nil _ _ _ _,.nil⟩,by simp⟩⟩
 · have:=heap_alloc_new (w.alloc (.map #[] 0)) (.cells #[.int .i64 n,.map (some w.heap.size),.slice none 0 0,.bool false,.int .i64 0,.int .i64 0,.int .u64 0,.int .i64 0,.int .i64 0] 113)
   simpa using this
 · refine⟨[],(MapIs.made w).fr ((Fr.refl C0 _).alloc _) (fun h=>h),.nil⟩
end
section
theorem z3h {F:Nat→Prop} {w:World} {d m:Nat} {ov:Value} {s:DSt} (h:DiskA F w d m ov s) (hd:s.down=false) (k:Nat) (hk:k<s.blocks) :
 Calls Tryz.prog 110 #[.pointer (some ⟨d,0,none⟩),.int .i64 (k:Int)] w fun e w'=>e=.returned (.tuple #[.slice (some ⟨w.heap.size,0,none⟩) 8192 8192,.int .i64 0])∧w'.heap[w.heap.size]?=some (.cells ((s.read k).map bv).toArray 5 (0,0))∧Fr C0 w w':=by
 have h0:=z2k h.blk 0 rfl
 have h2:=z2k h.blk 2 rfl
 have h3:=z2k h.blk 3 rfl
 have HG:=zhd (z39 h k)
 obtain⟨xs,o1,o2⟩:=h.opn
 have HR:=zhd (Row.ofOwn o1 (F:=fun b=>True) (fun _ _=>trivial))
 have HO:=zhd o2
 have hs:=h.small
 obtain⟨A,c,rfl,hc1,hc2⟩:=HR.out.form
 clear h o1 o2
 rw[hd] at h3
 go_enter Tryz.func110,Tryz.ntmps110
 go_wp2
 go_loopw [4,5,6] (fun a b i wr=>∃n:Nat,n≤s.opn.length∧a=.slice none 0 0∧b=.int .i64 0∧i=.int .i64 ((n:Int)-1)∧wr=w∧Hid (lastOpen k (s.opn.take n)=lastOpen k s.opn)) (fun _ _ i _=>(intOf i+1).toNat)
 case atStart=>exact⟨s.opn.length,Nat.le_refl _,rfl,rfl,by go_num,rfl,zhd (by rw[List.take_length])⟩
 case round=>
  obtain⟨n,hn,rfl,rfl,rfl,rfl,HA⟩:=hrel
  cases n with
  | succ n =>
    have HT:=zhd (z2c (k:=k) (l:=s.opn) (n:=n) hn)
    obtain⟨q1,v,q2,q3,q4⟩:=HO.out.at_ n hn
    obtain⟨g,o,rfl,_,hc⟩:=HR.out.cells q1
    have r1:=hc _ _ q1
    have r2:wr.cell? ⟨g,o+n*2+1,none⟩=some v:=hc _ _ q2
    have HW:=zhd (z37 q3 (Nat.le_of_eq q4))
    clear q1 q2 q3 q4 hc HO HR
    have e1:(n:Int)+1-1=(n:Int):=by omega
    by_cases hat:s.opn[n].1=k
    · rw[if_pos hat] at HT
      rw[hat] at r1
      go_wp2_with fail
      refine HW.out.mono ?_
      rintro e w' ⟨rfl,h4,h5⟩
      go_wp2
      go_ret2
      refine⟨rfl,?_,h5⟩
      rw[h4,DSt.read,←HA.out,HT.out]
    · rw[if_neg hat] at HT
      have hat2:¬(s.opn[n].1:Int)=(k:Int):=by omega
      go_wp2
      go_roundw
      case rel=>exact⟨n,by omega,rfl,rfl,by go_num,by trivial,zhd (by rw[←HT.out];exact HA.out)⟩
      case measure=>simp[intOf]
  | zero =>
    clear HO HR
    go_wp2_with fail
    refine HG.out.mono ?_
    rintro e w' ⟨rfl,h4,h5⟩
    go_wp2
    go_ret2
    refine⟨rfl,?_,h5⟩
    have:=HA.out
    rw[h4,DSt.read,←this]
    rfl
end
section
theorem z3i {F:Nat→Prop} {w:World} {d m k n:Nat} {ov v:Value} {s:DSt} {b:Bs} (h:DiskA F w d m ov s) (hv:BytesAt F w v b) (hb:b.length=8192) (hn:n≤8192) (hF:∀b,w.heap.size≤b→F b) (hm:¬F m) (hdm:d≠m) (hom:∀b,ov.ownBlock=some b→b≠m) :
 Calls Tryz.prog 69 #[.pointer (some ⟨d,0,none⟩),.agg #[.int .i64 (k:Int),v],.int .i64 (n:Int)] w fun e w'=>e=.returned (.tuple #[])∧DiskA F w' d m ov (s.lay k b n)∧Fr (fun b=>b=m) w w':=by
 have HG:=zhd (z39 (h.fr0 ((Fr.refl C0 w).alloc (.cells #[.int .i64 (k:Int),v] 125))) k)
 have HD:=zhd h
 have HV:=zhd (show Row F w v 8192 1 (b.map bv) by rw[←hb];exact hv.row)
 have h1:=z2k h.blk 1 rfl
 obtain⟨A,c,rfl,hc1,hc2⟩:=hv.form
 have HK:(s.good k).length=8192:=h.good_length k
 rw[hb] at hc1 HV HG⊢
 clear h hv
 go_enter Tryz.func69,Tryz.ntmps69
 go_wp2_with fail
 refine HG.out.mono ?_
 rintro e w1 ⟨rfl,g1,f1⟩
 go_wp2
 have HF1:Hid (Fr C0 w w1):=((Fr.refl C0 w).alloc _).trans0 f1
 have b0:=f1.cell0 (z2k (heap_alloc_new w (.cells #[.int .i64 (k:Int),.slice A 8192 c] 125)) 0 rfl)
 have b1:=f1.cell0 (z2k (heap_alloc_new w (.cells #[.int .i64 (k:Int),.slice A 8192 c] 125)) 1 rfl)
 have G1:=zhd g1;clear g1
 have hnc:n≤c:=by omega
 have hn8:(n:Int)≤8192:=by omega
 have hnc2:(n:Int)≤(c:Int):=by omega
 refine z1z (Fr (fun b=>b=w.heap.size+1) w1) [7] (by kernel_rfl) ?_
 have hSw0:(Fr (fun b=>b=w.heap.size+1) w1) _:=(Fr.refl _ w1).drew
 refine tk 0 hSw0 ?_
 refine tk 1 hSw0 ?_
 refine tk 2 hSw0 ?_
 refine tk 3 hSw0 ?_
 refine tk 4 hSw0 ?_ (hy:=by intro w_ hS_;have b2:=hS_.cell b1 (show ¬w.heap.size=w.heap.size+1 by omega);first|(go_simp;done)|(go_simp;with_reducible rfl))
 refine tk 5 hSw0 ?_
 refine tk 6 hSw0 ?_
 refine z1v 7 rfl (fun K hK=>?_)
 refine z1o z2o _ _ rfl (g:=w.heap.size+1) (off:=0) (dLen:=n) (dCap:=8192) rfl rfl (cur:=(s.good k).map bv) ((Fr.refl C0 w1).drew.blk (by simpa using G1.out) (fun h=>h)) (((HV.out.fr0 HF1.out).take hn).fr0 (Fr.refl C0 w1).drew) (z0p (z1c b)) (by rw[Nat.zero_add,List.length_map,HK];omega) ?_
 intro w2 g2 f2
 have hSw1:=hSw0.trans f2 (fun _ _ h=>h)
 refine hK.out _ _ ?_;clear hK K
 try simp only[Act.put,zs1,zs2,zs3]
 refine z1y (by kernel_rfl) ?_ _
 have HF2:Hid (Fr C0 w w2):=HF1.out.trans hSw1 (fun i hi h=>absurd h (by omega))
 have G2:Hid (w2.heap[w.heap.size+1]?=some (.cells ((b.take n++(s.good k).drop n).map bv).toArray 5 (0,0))):=by
  refine zhd ?_
  rw[g2,z2a (by omega)]
 have b0:=hSw1.cell b0 (show ¬w.heap.size=w.heap.size+1 by omega)
 have d1:=HF2.out.cell0 h1
 clear g2 h1 b1
 obtain⟨M,m1,m2⟩:=HD.out.kept
 have HM:=zhd (m1.fr HF2.out (fun h=>h))
 have HBY:Hid (BytesAt F w2 (.slice (some ⟨w.heap.size+1,0,none⟩) 8192 8192) (b.take n++(s.good k).drop n)):=by
  refine zhd (z0i.2 ?_)
  have:=Row.ofBlock (F:=F) (n:=8192) (size:=1) G2.out (hF _ (by omega)) (by unfold maxLen;omega) (by simp[hb,HK];omega)
  have hl:(b.take n++(s.good k).drop n).length=8192:=by simp[hb,HK];omega
  rw[hl]
  simpa using this
 clear m1
 go_wp2
 refine z1z (Fr C0 w2) [7] (by kernel_rfl) ?_
 have hSw0:(Fr C0 w2) _:=(Fr.refl _ w2).drew
 refine tk 0 hSw0 ?_
 refine tk 1 hSw0 ?_
 refine tk 2 hSw0 ?_
 refine tk 3 hSw0 ?_ (hy:=by intro w_ hS_;have b2:=hS_.cell0 b0;have d2:=hS_.cell0 d1;first|(go_simp;done)|(go_simp;with_reducible rfl))
 refine tk 4 hSw0 ?_
 refine tk 5 hSw0 ?_ (hy:=by intro w_ hS_;have b2:=hS_.cell0 b0;have d2:=hS_.cell0 d1;first|(go_simp;done)|(go_simp;with_reducible rfl))
 refine tk 6 hSw0 ?_
 refine z1v 7 rfl (fun K hK=>?_)
 refine z23 Tryz.underlying110 Tryz.underlying3 _ _ _ rfl rfl rfl rfl (HM.out.fr hSw0 (fun h=>h)) ?_
 intro w3 n3 f3
 have hSw3:=hSw0
 refine hK.out _ _ ?_;clear hK K
 try simp only[Act.put,zs1,zs2,zs3]
 refine z1y (by kernel_rfl) ?_ _
 clear HV
 go_wp2
 go_end0
 have F3:Fr (fun b=>b=m) w w3:=(HF2.out.mono (fun _ _ h=>h.elim)).trans ((hSw3.mono (fun _ _ h=>h.elim)).trans f3 (fun _ _ h=>h)) (fun _ _ h=>h)
 have F4:Fr (fun b=>b=m) w2 w3:=(hSw3.mono (fun _ _ h=>h.elim)).trans f3 (fun _ _ h=>h)
 refine⟨rfl,⟨?_,?_,?_,HD.out.small⟩,F3⟩
 · exact F3.blk HD.out.blk hdm
 · have hFm:∀b,F b→¬b=m:=fun b hb h=>hm (h▸hb)
   exact KeptAt.set (m2.imp fun _ _ h=>⟨h.1,h.2.1.fr F3 hFm,h.2.2⟩) n3 (HBY.out.fr F4 hFm) (by rw[List.length_append,List.length_take,List.length_drop,HK];omega)
 · obtain⟨xs,o1,o2⟩:=HD.out.opn
   exact⟨xs,z0m o1 F3 hom,o2.fr F3 (fun b hb h=>hm (h▸hb))⟩
end
end Go.Proofs.YtidalepbkljkpaaGreat
