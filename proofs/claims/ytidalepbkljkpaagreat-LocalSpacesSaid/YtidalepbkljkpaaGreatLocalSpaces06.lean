import Derived.Test.YtidalepbkljkpaaGreatLocalSpaces05
import Derived.Test.YtidalepbkljkpaaGreatLocalSpaces03
import Derived.Test.YtidalepbkljkpaaGreatLocalSpaces04
set_option linter.all false
namespace Go.Proofs.YtidalepbkljkpaaGreat
open Go.RowKit Go.H
set_option maxHeartbeats 1000000
set_option maxRecDepth 100000
section
def WriteR (F:Nat→Prop) (w:World) (d m k:Nat) (ov:Value) (s:DSt) (b:Bs) (err:Int) (w':World):Prop:=Fr (fun b=>ov.ownBlock=some b∨b=m∨b=d) w w'∧((err=0∧
 ∃ov',(∀b,ov'.ownBlock=some b→ov.ownBlock=some b∨w.heap.size≤b)∧DiskA (fun b=>F b∨(w.heap.size≤b∧ov'.ownBlock≠some b)) w' d m ov' (s.tick.write k b)∧Fr (fun b=>ov.ownBlock=some b∨b=d) w w')∨(err=20∧FellD (fun b=>F b∨w.heap.size≤b) w' d m s))
theorem z3u {F:Nat→Prop} {w:World} {d m k:Nat} {ov v:Value} {s:DSt} {b:Bs} (h:DiskA F w d m ov s) (hd:s.down=false) (hk:k<s.blocks) (hv:BytesAt F w v b) (hb:b.length≤8192) (ho:s.opn.length<100000)
 (hm:¬F m) (hdF:¬F d) (hdm:d≠m) (hom:∀b,ov.ownBlock=some b→b≠m) (hod:∀b,ov.ownBlock=some b→b≠d) (hoF:∀b,ov.ownBlock=some b→¬F b) :
 Calls Tryz.prog 173 #[.pointer (some ⟨d,0,none⟩),.int .i64 (k:Int),v] w fun e w'=>∃err:Int,e=.returned (.int .i64 err)∧Hid (WriteR F w d m k ov s b err w'):=by
 have HS:=zhd (z3t h hd hm hdF hdm hom hod)
 have HV:=zhd hv
 have h3:=z2k h.blk 3 rfl
 have h0:=z2k h.blk 0 rfl
 obtain⟨Av,cv,rfl,-⟩:=id hv
 clear h hv
 rw[hd] at h3
 go_enter Tryz.func173,Tryz.ntmps173
 go_wp2_with fail
 refine HS.out.mono ?_
 rintro e w1 ⟨bb,rfl,HR⟩
 obtain⟨fr1,(⟨rfl,hD1,f1⟩|⟨rfl,hfell⟩)⟩:=HR.out
 case inr=>
  have HE:=zhd (show WriteR F w d m k ov s b 20 w1 from⟨fr1.mono (fun _ _ h=>.inr h),.inr ⟨rfl,hfell⟩⟩)
  clear HR HS fr1 hfell
  go_wp2
  go_ret
  exact⟨20,rfl,HE⟩
 have hso:s.tick.opn=s.opn:=rfl
 have hsb:s.tick.blocks=s.blocks:=rfl
 have hsd:s.tick.down=false:=hd
 rw[←hso] at ho
 rw[←hsb] at hk
 have HV1:=zhd (HV.out.fr f1 (fun b hb h=>hdF (h▸hb)))
 have F01:=zhd f1
 have HW:=zhd (z37 (HV1.out.fr0 (Fr.refl C0 w1).drew) hb)
 clear HR HS fr1 hso hsb hd h3 h0 HV f1
 have hs1:=F01.out.size
 obtain⟨s2,hs2⟩:∃s2,s.tick=s2:=⟨_,rfl⟩
 rw[hs2] at hD1 ho hk hsd
 have HD:=zhd hD1
 have h2:=z2k hD1.blk 2 rfl
 have h0:=z2k hD1.blk 0 rfl
 have z2:=z2i 2 hD1.blk
 have hl:=hD1.blk
 obtain⟨xs,o1,o2⟩:=hD1.opn
 obtain⟨A,c,rfl,hA⟩:=z0o o1
 have O1:=zhd o1
 have O2:=zhd o2
 have HS2:=zhd hs2
 clear hD1 o1 o2 hl hA hs2
 have d_lt:d<w1.heap.size:=World.block_lt_of_cell? w1 _ h2
 go_wp2_with fail
 refine z1z (Fr (fun b=>(Value.slice A s2.opn.length c).ownBlock=some b) w1) [13] (by kernel_rfl) ?_
 have hSw0:(Fr (fun b=>(Value.slice A s2.opn.length c).ownBlock=some b) w1) _:=(Fr.refl _ w1).drew
 refine tk 0 hSw0 ?_
 refine tk 1 hSw0 ?_
 refine tk 2 hSw0 ?_
 refine tk 3 hSw0 ?_
 refine tk 4 hSw0 ?_ (hy:=by intro w_ hS_;have b2:=hS_.cell h2 (fun h=>hod _ h rfl);first|(go_simp;done)|(go_simp;with_reducible rfl))
 refine tk 5 hSw0 ?_
 refine tk 6 hSw0 ?_
 refine one_ 7 rfl (fun K hK=>?_)
 go_simp
 refine HW.out.mono ?_
 rintro e w3 ⟨rfl,g1,f1⟩
 simp only[]
 refine hK.out _ _ ?kS1 (fun hSw1=>?kR1)
 case kS1=>exact hSw0.trans0 f1
 clear hK K
 try simp only[Act.put,zs1,zs2,zs3]
 refine tk 8 hSw1 ?_
 refine one_ 9 rfl (fun K hK=>?_)
 go_simp
 refine hK.out _ _ ?kS2 (fun hSw2=>?kR2)
 case kS2=>exact hSw1.alloc _
 clear hK K
 try simp only[Act.put,zs1,zs2,zs3]
 refine one_ 10 rfl (fun K hK=>?_)
 refine z0k z2t _ _ rfl (v:=.slice A s2.opn.length c) (xv:=.slice (some ⟨w3.heap.size,0,none⟩) 1 1) rfl rfl (B:=0) (z0m O1.out (((Fr.refl C0 w1).drew.trans0 f1).alloc _) (fun _ _ h=>h)) (F:=fun _=>True) (Row.ofBlock (n:=1) (size:=2) (heap_alloc_new w3 _) trivial (by unfold maxLen;omega) rfl) (by simp[Value.oneCell']) (by unfold maxLen;omega) (by omega) (Nat.zero_le _) ?_
 intro v2 w2 o2 f2 k2 nil2
 have hSw2:=hSw1.alloc (.cells #[.int .i64 (k:Int),.slice (some ⟨w1.heap.size,0,none⟩) 8192 8192] 125)
 refine hK.out _ _ ?kS3 (fun hSw3=>?kR3)
 case kS3=>exact hSw2.trans f2 (fun _ _ h=>h)
 clear hK K
 try simp only[Act.put,zs1,zs2,zs3]
 refine tk 11 hSw3 ?_
 refine tk 12 hSw3 ?_
 refine z1v 13 rfl (fun K hK=>?_)
 have b13:=hSw3.cell h2 (fun h=>hod _ h rfl)
 have z13:=(hSw3.frozen (p:=⟨d,2,none⟩) (World.block_lt_of_cell? w1 _ h2) (fun h=>hod _ h rfl)).trans z2
 obtain⟨A2,c2,rfl,hA2⟩:=z0o o2
 go_simp
 refine hK.out _ _ ?_;clear hK K
 try simp only[Act.put,zs1,zs2,zs3]
 refine z1y (by kernel_rfl) ?_ _
 go_wp2
 go_ret
 have hl:=HD.out.blk
 have hFr:Fr (fun b=>(Value.slice A s2.opn.length c).ownBlock=some b) w1 w2:=hSw3
 have hb2:=hFr.blk hl (fun h=>hod _ h rfl)
 have hb3:=z2j (i:=2) hb2 (.slice A2 (s2.opn.length+1) c2)
 have FS:Fr (fun b=>b=d) w2 (w2.setCell ⟨d,2,none⟩ (.slice A2 (s2.opn.length+1) c2)):=(Fr.refl (fun b=>b=d) w2).setCell (.inr rfl) _
 have FA:Fr (fun b=>(Value.slice A s2.opn.length c).ownBlock=some b∨b=d) w1 (w2.setCell ⟨d,2,none⟩ (.slice A2 (s2.opn.length+1) c2)):=(hFr.mono (fun _ _ h=>.inl h)).trans FS (fun _ _ h=>.inr h)
 have hdF2:∀b,F b→¬((Value.slice A s2.opn.length c).ownBlock=some b∨b=d):=fun b hb h=>h.elim (fun h=>hoF b h hb) (fun h=>hdF (h▸hb))
 have k3:∀b,(Value.slice A2 (s2.opn.length+1) c2).ownBlock=some b→(Value.slice A s2.opn.length c).ownBlock=some b∨w1.heap.size≤b:=fun b hb=>(k2 b hb).imp id (fun h=>by have:=f1.size;simp at h this;omega)
 have FB:Fr (fun b=>(Value.slice A s2.opn.length c).ownBlock=some b∨b=d) w (w2.setCell ⟨d,2,none⟩ (.slice A2 (s2.opn.length+1) c2)):=(F01.out.mono (fun _ _ h=>.inr h)).trans FA (fun _ _ h=>h)
 obtain rfl:=HS2.out
 refine⟨0,rfl,zhd ⟨FB.mono (fun _ _ h=>h.imp id .inr),.inl ⟨rfl,_,fun b hb=>(k3 b hb).imp id (fun h=>by omega),⟨?_,?_,⟨xs++[.int .i64 (k:Int),.slice (some ⟨w1.heap.size,0,none⟩) 8192 8192],?_,?_⟩,?_⟩,FB⟩⟩⟩
 · simpa [DSt.write] using hb3
 · exact(HD.out.kept.fr FA (fun h=>h.elim (fun h=>hom _ h rfl) (fun h=>hdm h.symm)) hdF2).mono (fun b hb _=>.inl hb)
 · have hod2:∀b,(Value.slice A2 (s.tick.opn.length+1) c2).ownBlock=some b→¬b=d:=fun b hb h=>by
    rcases k3 b hb with h'|h'
    · exact hod b h' h
    · omega
   simpa [DSt.write] using z0m o2 FS hod2
 · have hown:(Value.slice A2 (s.tick.opn.length+1) c2).ownBlock≠some w1.heap.size:=fun h=>by
    rcases k2 _ h with h'|h'
    · have:=(O1.out.lt _ h').2;omega
    · have:=f1.size;have e1:w1.drew.heap.size=w1.heap.size:=rfl;have e2:=Array.getElem?_eq_some_iff.1 g1;simp at h';have:=e2.1;have e3:w1.drew.heap.size<w3.heap.size:=e2.1;omega
   have hg2:(w2.setCell ⟨d,2,none⟩ (.slice A2 (s.tick.opn.length+1) c2)).heap[w1.heap.size]?=some (.cells ((padB b).map bv).toArray 5 (0,0)):=by
    have g2:w3.heap[w1.heap.size]?=some (.cells ((padB b).map bv).toArray 5 (0,0)):=g1
    exact FS.blk (f2.blk (((Fr.refl C0 w3).alloc _).blk g2 (fun h=>h)) (fun h=>by have:=(O1.out.lt _ h).2;omega)) (fun h=>by omega)
   refine OpenCells.snoc (z0i.2 ?_) (z27 hb) ((O2.out.fr FA hdF2).mono (fun b hb _=>.inl hb))
   have:=Row.ofBlock (F:=fun x=>F x∨(w.heap.size≤x∧(Value.slice A2 (s.tick.opn.length+1) c2).ownBlock≠some x)) (n:=8192) (size:=1) hg2 (.inr ⟨by omega,hown⟩) (by unfold maxLen;omega) (by simp[z27 hb])
   rw[z27 hb]
   simpa using this
 · simp[DSt.write];omega
end
section
def FlushR (F:Nat→Prop) (w:World) (d m:Nat) (s:DSt) (err:Int) (w':World):Prop:=Fr (fun b=>b=m∨b=d) w w'∧((err=0∧DiskA F w' d m (.slice none 0 0) s.tick.flush)∨(err=20∧FellD F w' d m s))
theorem z3v {F:Nat→Prop} {w:World} {d m:Nat} {ov:Value} {s:DSt} (h:DiskA F w d m ov s) (hd:s.down=false) (hF:∀b,w.heap.size≤b→F b) (hm:¬F m) (hdF:¬F d) (hdm:d≠m) (hom:∀b,ov.ownBlock=some b→b≠m) (hod:∀b,ov.ownBlock=some b→b≠d) :
 Calls Tryz.prog 172 #[.pointer (some ⟨d,0,none⟩)] w fun e w'=>∃err:Int,e=.returned (.int .i64 err)∧Hid (FlushR F w d m s err w'):=by
 have HS:=zhd (z3t h hd hm hdF hdm hom hod)
 have h3:=z2k h.blk 3 rfl
 clear h
 rw[hd] at h3
 go_enter Tryz.func172,Tryz.ntmps172
 go_wp2_with fail
 refine HS.out.mono ?_
 rintro e w1 ⟨bb,rfl,HR⟩
 obtain⟨fr1,(⟨rfl,h,f1⟩|⟨rfl,hfell⟩)⟩:=HR.out
 case inr=>
  have HE:=zhd (show FlushR F w d m s 20 w1 from⟨fr1,.inr ⟨rfl,hfell.1,by obtain⟨f,a,b⟩:=hfell.2;exact⟨f,a,b.mono fun b hb _=>hb.elim id (hF b)⟩⟩⟩)
  clear HR HS fr1 hfell
  go_wp2
  go_ret
  exact⟨20,rfl,HE⟩
 have F01:=zhd f1
 clear HR HS fr1 h3
 obtain⟨s2,hs2⟩:∃s2,s.tick=s2:=⟨_,rfl⟩
 rw[hs2] at h
 have HS2:=zhd hs2
 have hs1:=f1.size
 clear hs2 f1
 have HD:=zhd h
 have h2:=z2k h.blk 2 rfl
 obtain⟨xs,o1,o2⟩:=h.opn
 have HR:=zhd (Row.ofOwn o1 (F:=fun b=>b<w1.heap.size∧b≠m∧b≠d) (fun b hb=>⟨(o1.lt b hb).2,hom b hb,hod b hb⟩))
 have HO:=zhd o2
 have HOM:=zhd hom
 have hs:=h.small
 obtain⟨A,c,rfl,hc1,hc2⟩:=HR.out.form
 clear h o1 o2 hom
 go_wp2
 go_loopw [18] (fun i wr=>∃n:Nat,n≤s2.opn.length∧i=.int .i64 (n:Int)∧Hid (DiskA F wr d m (.slice A s2.opn.length c) (layAll s2 (s2.opn.take n)))∧Hid (Fr (fun b=>b=m) w1 wr)) (fun i _=>s2.opn.length-(intOf i).toNat)
 case atStart=>exact⟨0,Nat.zero_le _,by go_num,HD,zhd (Fr.refl _ _)⟩
 case round=>
  obtain⟨n,hn,rfl,HDn,HF⟩:=hrel
  by_cases hlt:n<s2.opn.length
  · obtain⟨q1,v,q2,q3,q4⟩:=HO.out.at_ n hlt
    obtain⟨g,o,rfl,hg,hc⟩:=HR.out.cells q1
    have r1:=HF.out.cell (hc _ _ q1) hg.2.1
    have r2:wr.cell? ⟨g,o+n*2+1,none⟩=some v:=HF.out.cell (hc _ _ q2) hg.2.1
    have q3':BytesAt F wr v s2.opn[n].2:=q3.fr HF.out (fun b hb h=>hm (h▸hb))
    obtain⟨vA,vc,rfl,-⟩:=id q3
    have HL:=zhd (z3i (HDn.out.fr0 ((Fr.refl C0 wr).alloc (.cells #[.int .i64 (s2.opn[n].1:Int),.slice vA s2.opn[n].2.length vc] 125))) (q3'.fr0 ((Fr.refl C0 wr).alloc _)) q4 (n:=8192) (Nat.le_refl _) (k:=s2.opn[n].1) (fun b hb=>hF b (by have:=HF.out.size;simp at hb;omega)) hm hdm HOM.out)
    clear q1 q2 q3 q4 hc HO HR q3'
    go_wp2_with fail
    refine HL.out.mono ?_
    rintro e w' ⟨rfl,D2,f2⟩
    go_wp2
    go_roundw
    case rel=>exact⟨n+1,by omega,by go_num,zhd (by rw[z2g hlt];exact D2),zhd ((HF.out.alloc _).trans f2 (fun _ _ h=>h))⟩
    case measure=>simp[intOf];omega
  · have e1:n=s2.opn.length:=by omega
    subst e1
    clear HO HR
    have z:=z2i 2 HDn.out.blk
    have z1:=z2k HDn.out.blk 2 rfl
    go_wp2
    go_ret
    have hb:=z2j (i:=2) HDn.out.blk (.slice none 0 0)
    rw[List.take_length] at HDn hb
    have FS:Fr (fun b=>b=d) wr (wr.setCell ⟨d,2,none⟩ (.slice none 0 0)):=(Fr.refl (fun b=>b=d) wr).setCell (.inr rfl) _
    obtain rfl:=HS2.out
    refine⟨0,rfl,zhd ⟨((F01.out.mono (C2:=fun b=>b=m∨b=d) (fun _ _ h=>.inr h)).trans (HF.out.mono (fun _ _ h=>.inl h)) (fun _ _ h=>h)).trans FS (fun _ _ h=>.inr h),.inl ⟨rfl,?_,HDn.out.kept.fr FS (fun h=>hdm h.symm) (fun b hb h=>hdF (h▸hb)),⟨[],World.ownsRow_nil _ _ _ _,.nil⟩,by simp[DSt.flush]⟩⟩⟩
    simpa [DSt.flush] using hb
end
end Go.Proofs.YtidalepbkljkpaaGreat
namespace Go.H
open Go.RowKit
section
def U32 (x:Int):Prop:=0≤x∧x<4294967296
theorem z3w (b:BinOp) (x y:Int):U32 (bits b .u32 x y):=by
 unfold U32 bits
 simp only[IntKind.wrap_u32]
 omega
def crcStep (r:Int):Int:=if bits .and .u32 r 1=1 then bits .xor .u32 (r / 2) 2197175160 else r / 2
theorem z3x {r:Int} (h:U32 r):U32 (crcStep r):=by
 unfold crcStep
 split
 · exact z3w _ _ _
 · obtain⟨h1,h2⟩:=h;constructor<;>omega
def crcN (i:Nat):Nat→Int
 |0=>i
 |n+1=>crcStep (crcN i n)
theorem z3y {i:Nat} (h:i<256):∀n,U32 (crcN i n)
 |0=>⟨by simp[crcN],by simp[crcN];omega⟩
 |n+1=>z3x (z3y h n)
def tab:Nat→Nat→Int
 |0,i=>crcN i 8
 |k+1,i=>bits .xor .u32 (tab k i / 256) (crcN (tab k i % 256).toNat 8)
theorem z3z {i:Nat} (h:i<256):∀k,U32 (tab k i)
 |0=>z3y h 8
 |k+1=>z3w _ _ _
def tabRow (k:Nat):List Value:=(List.range 256).map fun i=>.int .u32 (tab k i)
theorem z40 (k:Nat):(tabRow k).length=256:=by rw[tabRow,List.length_map,List.length_range]
theorem z41 {k i:Nat} (h:i<256):(tabRow k)[i]?=some (.int .u32 (tab k i)):=by
 rw[tabRow,List.getElem?_map,List.getElem?_range h];rfl
theorem wraps_u32' (n:Int) (h₀:0≤n) (h₁:n<2 ^ 32):IntKind.u32.wrap n=n:=by
 rw[IntKind.wrap_u32]
 have:(2:Int) ^ 32=4294967296:=by decide
 omega
theorem z42 {x:Int} (h:U32 x):bits .and .u32 x 255=x % 256:=bits_mask .u32 32 (by decide) wraps_u32' 8 (by decide) x h.1 h.2
def crcByte (r:Int) (c:UInt8):Int:=bits .xor .u32 (r / 256) (tab 0 (bits .xor .u8 (r % 256) (c.toNat:Int)).toNat)
def crc4in (r:Int) (a b c d:UInt8):Int:=bits .xor .u32 r (bits .or .u32 (bits .or .u32 (bits .or .u32 (a.toNat:Int) ((b.toNat:Int)*256)) ((c.toNat:Int)*65536)) ((d.toNat:Int)*16777216))
def crc4out (r:Int):Int:=bits .xor .u32 (bits .xor .u32 (bits .xor .u32 (tab 3 (r % 256).toNat) (tab 2 (r / 256 % 256).toNat)) (tab 1 (r / 65536 % 256).toNat)) (tab 0 (r / 16777216).toNat)
def crcAll (r:Int):List UInt8→Int
 |a::b::c::d::l=>crcAll (crc4out (crc4in r a b c d)) l
 |a::l=>crcAll (crcByte r a) l
 |[]=>r
def crc (l:List UInt8):Int:=bits .xor .u32 IntKind.u32.max (crcAll 4294967295 l)
theorem z43 (l:List UInt8):U32 (crc l):=z3w _ _ _
theorem z44 (x:Int) (a:UInt8) (l:List UInt8) (h:l.length≤2):crcAll x (a::l)=crcAll (crcByte x a) l:=by
 match l,h with
 |[],_=>rfl
 |[b],_=>rfl
 |[b,c],_=>rfl
theorem z45 (b:BinOp) (x y:Int):0≤bits b .u8 x y∧bits b .u8 x y<256:=by
 unfold bits
 simp only[IntKind.wrap_u8]
 omega
end
end Go.H
namespace Go.Proofs.YtidalepbkljkpaaGreat
open Go.RowKit Go.H
set_option maxHeartbeats 1000000
set_option maxRecDepth 100000
section
theorem z46 {w:World} {n:Nat} {v:Value} {cs:List Value} (hn:n<256) (h:cs[n]?=some v) (h1:v.oneCell'=true):(Instr.index 259 (.agg cs.toArray) (.int .i64 (n:Int))).run Tryz.prog w=.ok v w:=by
 have e1:(0:Int)≤(n:Int)∧(n:Int)<((256:Nat):Int):=by omega
 have e2:(sizeOf 182).run Tryz.prog w=.ok 1 w:=by kernel_rfl
 have e3:(isAgg 182).run Tryz.prog w=.ok false w:=by kernel_rfl
 simp[Instr.index,run_underlying Tryz.underlying259,asIntOf,go_sem,e1,e2,e3,h,Sem.run_bind]
 omega
end
section
theorem z47 {w:World} {g:Nat} {cs:Array Value} (hg:w.heap[g]?=some (.cells cs 261 (0,0))) (hn:cs.size=1024) :
 Calls Tryz.prog 176 #[.pointer (some ⟨g,0,none⟩)] w fun e w'=>e=.returned (.tuple #[])∧Fr (fun b=>b=g) w w'∧∃cs',w'.heap[g]?=some (.cells cs' 261 (0,0))∧∀k i,k<4→i<256→cs'[k*256+i]?=some (.int .u32 (tab k i)):=by
 go_enter Tryz.func176,Tryz.ntmps176
 go_wp2
 go_loopw [2,3,4,8,13] (fun a b c i j wr=>∃(n:Nat) (cs':Array Value),n≤256∧i=.int .i64 (n:Int)∧Hid (Fr (fun b=>b=g) w wr)∧Hid (cs'.size=1024)∧Hid (wr.heap[g]?=some (.cells cs' 261 (0,0)))∧Hid (∀i:Nat,i<n→cs'[i]?=some (.int .u32 (tab 0 i)))) (fun _ _ _ i _ _=>256-(intOf i).toNat)
 case atStart=>exact⟨0,cs,by omega,rfl,zhd (Fr.refl _ _),zhd hn,zhd hg,zhd (fun i h=>absurd h (by omega))⟩
 case round=>
  obtain⟨n,cs',hn',rfl,HF,HS,HG,HT⟩:=hrel
  by_cases hlt:n<256
  · go_wp2
    go_loopw [3,4,13] (fun a b j wr2=>∃m:Nat,m≤8∧a=.int .u32 (crcN n m)∧j=.int .i64 (m:Int)∧wr2=wr) (fun _ _ j _=>8-(intOf j).toNat)
    case atStart=>exact⟨0,by omega,by simp[crcN],rfl,rfl⟩
    case round=>
     obtain⟨m,hm,rfl,rfl,rfl⟩:=hrel
     by_cases hl8:m<8
     · have hc:crcN n (m+1)=crcStep (crcN n m):=rfl
       have hu:=z3y hlt m
       unfold crcStep at hc
       by_cases hb:bits .and .u32 (crcN n m) 1=1
       · rw[if_pos hb] at hc
         go_wp2
         go_roundw
         case rel=>exact⟨m+1,by omega,by rw[hc],by go_num,trivial⟩
         case measure=>simp[intOf];omega
       · rw[if_neg hb] at hc
         go_wp2
         go_roundw
         case rel=>exact⟨m+1,by omega,by rw[hc],by go_num,trivial⟩
         case measure=>simp[intOf];omega
     · obtain rfl:m=8:=by omega
       have z:=z2i n HG.out
       have z1:wr.cell? ⟨g,n,none⟩=cs'[n]?:=cell_of_row wr g n _ _ _ HG.out
       rw[Array.getElem?_eq_getElem (by rw[HS.out];omega)] at z1
       have hT:=HT.out
       have hS:=HS.out
       go_wp2
       go_roundw
       case rel=>
        refine⟨n+1,cs'.setIfInBounds n (.int .u32 (crcN n 8)),by omega,by go_num,zhd (HF.out.trans ((Fr.refl (fun b=>b=g) wr).setCell (.inr rfl) _) (fun _ _ h=>h)),zhd (by simp[hS]),zhd (z2j HG.out _),zhd fun i hi=>?_⟩
        rw[Array.getElem?_setIfInBounds]
        by_cases hin:n=i
        · subst hin;rw[if_pos rfl,if_pos (by omega)];rfl
        · rw[if_neg hin];exact hT i (by omega)
       case measure=>simp[intOf];omega
  · obtain rfl:n=256:=by omega
    go_wp2
    go_loopw [5,6,7,41] (fun a b c j wr2=>∃(k:Nat) (cs':Array Value),1≤k∧k≤4∧a=.int .i64 (k:Int)∧Hid (Fr (fun b=>b=g) w wr2)∧Hid (cs'.size=1024)∧Hid (wr2.heap[g]?=some (.cells cs' 261 (0,0)))∧Hid (∀k2 i:Nat,k2<k→i<256→cs'[k2*256+i]?=some (.int .u32 (tab k2 i)))) (fun a _ _ _ _=>4-(intOf a).toNat)
    case atStart=>exact⟨1,cs',by omega,by omega,rfl,HF,HS,HG,zhd (fun k2 i hk hi=>by rw[show k2=0 by omega,Nat.zero_mul,Nat.zero_add];exact HT.out i hi)⟩
    case round=>
     obtain⟨k,cs',hk1,hk4,rfl,HF,HS,HG,HT⟩:=hrel
     by_cases hlt:k<4
     · have hk:∃k',k=k'+1∧k'<3:=⟨k-1,by omega,by omega⟩
       obtain⟨k',rfl,hk3⟩:=hk
       clear hk1 hk4
       have hrow:wr.rangeAt g (k'*256) (tabRow k'):=by
        intro j v hj
        rw[cell_of_row wr g _ _ _ _ HG.out]
        by_cases hj2:j<256
        · rw[z41 hj2] at hj
          rw[HT.out k' j (by omega) hj2];exact hj
        · rw[List.getElem?_eq_none (by rw[z40];omega)] at hj;cases hj
       have hsz:(Tryz.prog.info? 259).map (·.size)=some (tabRow k').length:=by rw[z40];kernel_rfl
       have HSZ:=zhd hsz
       clear hsz
       have HROW:=zhd hrow
       clear hrow
       go_wp2_with (go_loud (refine wpList_load_mid rfl 259 (.tmp 39) rfl g (k'*256) rfl _ _ HROW.out Tryz.underlying259 rfl HSZ.out ?_))
       have HT1:=zhd HT.out
       clear HROW
       go_loopw [6,7,41] (fun b c j wr2=>∃(n:Nat) (cs':Array Value),n≤256∧j=.int .i64 (n:Int)∧Hid (Fr (fun b=>b=g) w wr2)∧Hid (cs'.size=1024)∧Hid (wr2.heap[g]?=some (.cells cs' 261 (0,0)))∧Hid (∀k2 i:Nat,k2<k'+1∨(k2=k'+1∧i<n)→i<256→cs'[k2*256+i]?=some (.int .u32 (tab k2 i)))) (fun _ _ j _=>256-(intOf j).toNat)
       case atStart=>exact⟨0,cs',by omega,rfl,HF,HS,HG,zhd (fun k2 i hk hi=>HT.out k2 i (by omega) hi)⟩
       case round=>
        clear HF HS HG HT HT1
        obtain⟨n,cs',hn',rfl,HF,HS,HG,HT⟩:=hrel
        by_cases hlt:n<256
        · have hu:=z3z hlt k'
          have hix:=z41 (k:=k') hlt
          have hidx:=z46 (w:=wr) hlt hix rfl
          go_wp2_with fail
          have h255:=z42 hu
          have hm:(tab k' n % 256).toNat<256:=by omega
          have c0:wr.cell? ⟨g,(tab k' n % 256).toNat,none⟩=some (.int .u32 (tab 0 (tab k' n % 256).toNat)):=by
           rw[cell_of_row wr g _ _ _ _ HG.out];simpa using HT.out 0 _ (by omega) hm
          have hp0:0≤tab k' n % 256:=by omega
          have hp1:tab k' n % 256<256:=by omega
          have hp2:(0:Int)≤(k':Int)+1:=by omega
          have z1:wr.cell? ⟨g,(k'+1)*256+n,none⟩=cs'[(k'+1)*256+n]?:=cell_of_row wr g _ _ _ _ HG.out
          rw[Array.getElem?_eq_getElem (by rw[HS.out];omega)] at z1
          have z0:=z2i ((k'+1)*256+n) HG.out
          refine z1z (Fr C0 wr) [16] (by kernel_rfl) ?_
          have hSw0:(Fr C0 wr) _:=(Fr.refl _ wr).drew
          refine tk 0 hSw0 ?_
          refine tk 1 hSw0 ?_
          refine tk 2 hSw0 ?_
          refine tk 3 hSw0 ?_
          refine tk 4 hSw0 ?_
          refine tk 5 hSw0 ?_
          refine tk 6 hSw0 ?_
          refine tk 7 hSw0 ?_
          refine tk 8 hSw0 ?_
          refine tk 9 hSw0 ?_
          refine tk 10 hSw0 ?_
          refine tk 11 hSw0 ?_ (hy:=by intro w_ hS_;have c1:=hS_.cell0 c0;first|(go_simp;done)|(go_simp;with_reducible rfl))
          refine tk 12 hSw0 ?_
          refine tk 13 hSw0 ?_
          refine tk 14 hSw0 ?_
          refine tk 15 hSw0 ?_
          refine z1v 16 rfl (fun K hK=>?_)
          have z2:=hSw0.cell0 z1
          have z3:=(hSw0.frozen (World.block_lt_of_cell? wr _ z1) (fun h=>h)).trans z0
          go_simp
          refine hK.out _ _ ?_;clear hK K
          try simp only[Act.put,zs1,zs2,zs3]
          refine z1y (by kernel_rfl) ?_ _
          have hv:bits .xor .u32 (tab k' n / 256) (tab 0 (tab k' n % 256).toNat)=tab (k'+1) n:=rfl
          rw[hv]
          have hFS:Hid (Fr (fun b=>b=g) w (wr.setCell ⟨g,(k'+1)*256+n,none⟩ (.int .u32 (tab (k'+1) n))).drew):=zhd ((HF.out.trans ((Fr.refl (fun b=>b=g) wr).setCell (.inr rfl) _) (fun _ _ h=>h)).drew)
          have hGS:Hid ((wr.setCell ⟨g,(k'+1)*256+n,none⟩ (.int .u32 (tab (k'+1) n))).drew.heap[g]?=some (.cells (cs'.setIfInBounds ((k'+1)*256+n) (.int .u32 (tab (k'+1) n))) 261 (0,0))):=zhd (z2j HG.out _)
          have hS:=HS.out
          have hT:=HT.out
          go_wp2
          refine⟨?_,?measure3⟩
          case' measure3=>simp[intOf];omega
          refine⟨n+1,_,by omega,by go_num,hFS,zhd (by simp[hS]),hGS,zhd fun k2 i hk hi=>?_⟩
          rw[Array.getElem?_setIfInBounds]
          by_cases hin:(k'+1)*256+n=k2*256+i
          · rw[if_pos hin,if_pos (by omega)]
            obtain rfl:k2=k'+1:=by omega
            obtain rfl:i=n:=by omega
            rfl
          · rw[if_neg hin];exact hT k2 i (by omega) hi
        · obtain rfl:n=256:=by omega
          go_wp2
          refine⟨?_,?measure2⟩
          case' measure2=>simp[intOf];omega
          repeat apply Exists.intro
          refine⟨?rel2,rfl⟩
          case' rel2=>exact⟨k'+1+1,cs',by omega,by omega,by go_num,HF,HS,HG,zhd (fun k2 i hk hi=>HT.out k2 i (by omega) hi)⟩
     · obtain rfl:k=4:=by omega
       go_wp2
       go_end0
       exact⟨rfl,HF.out,cs',HG.out,HT.out⟩
end
section
theorem z48 {F:Nat→Prop} {w:World} {v:Value} {l:List UInt8} (h:BytesAt F w v l) (hn:l.length≤100000) :
 Calls Tryz.prog 157 #[v] w fun e w'=>e=.returned (.int .u32 (crc l))∧Fr C0 w w':=by
 have HR:=zhd h
 obtain⟨A,c,rfl,h1,h2⟩:=h.form
 go_enter Tryz.func157,Tryz.ntmps157
 go_wp2_with fail
 refine(z47 (heap_alloc_new w _) (by kernel_rfl)).mono ?_
 rintro e w1 ⟨rfl,f1,cs,hg,hT⟩
 have HF1:Hid (Fr C0 w w1):=zhd (((Fr.refl C0 w).alloc _).trans f1 (fun i hi h=>absurd h (by omega)))
 have HG:=zhd hg
 have HT:=zhd hT
 clear f1 hg hT h
 go_wp2
 go_loopw [0,4] (fun b r wr=>∃(A:Option Addr) (c:Nat) (l2:List UInt8) (x:Int),b=.slice A l2.length c∧l2.length≤100000∧l2.length≤c∧r=.int .u32 x∧Hid (BytesAt F wr (.slice A l2.length c) l2)∧Hid (crcAll x l2=crcAll 4294967295 l)∧Hid (U32 x)∧Hid (Fr C0 w wr)∧Hid (wr.heap[w.heap.size]?=some (.cells cs 261 (0,0)))) (fun b _ _=>match b with|.slice _ n _=>n|_=>0)
 case atStart=>exact⟨A,c,l,_,rfl,hn,h1,rfl,zhd (HR.out.fr0 HF1.out),zhd rfl,zhd ⟨by omega,by omega⟩,HF1,HG⟩
 case round=>
  clear HF1 HG HR h1 h2 hn
  obtain⟨A,c,l2,x,rfl,hn,hc,rfl,HB,HC,HU,HF,HG⟩:=hrel
  by_cases h4:4≤l2.length
  · obtain⟨g,o,rfl,_,b0⟩:=HB.out.at_ 0 (by omega)
    obtain⟨g',o',he1,_,b1⟩:=HB.out.at_ 1 (by omega)
    obtain⟨g',o',he2,_,b2⟩:=HB.out.at_ 2 (by omega)
    obtain⟨g',o',he3,_,b3⟩:=HB.out.at_ 3 (by omega)
    cases he1;cases he2;cases he3
    rw[Nat.add_zero] at b0
    have i0:(0:Int)<(l2.length:Int):=by omega
    have i1:(1:Int)<(l2.length:Int):=by omega
    have i2:(2:Int)<(l2.length:Int):=by omega
    have i3:(3:Int)<(l2.length:Int):=by omega
    have j0:0<l2.length:=by omega
    have j1:1<l2.length:=by omega
    have j2:2<l2.length:=by omega
    have j3:3<l2.length:=by omega
    have y0:=l2[0].toNat_lt
    have y1:=l2[1].toNat_lt
    have y2:=l2[2].toNat_lt
    have y3:=l2[3].toNat_lt
    have w1':IntKind.u32.wrap ((l2[1].toNat:Int)*256)=(l2[1].toNat:Int)*256:=wraps_u32' _ (by omega) (by omega)
    have w2':IntKind.u32.wrap ((l2[2].toNat:Int)*65536)=(l2[2].toNat:Int)*65536:=wraps_u32' _ (by omega) (by omega)
    have w3':IntKind.u32.wrap ((l2[3].toNat:Int)*16777216)=(l2[3].toNat:Int)*16777216:=wraps_u32' _ (by omega) (by omega)
    go_wp2
    refine z1z (Fr C0 wr) [] (by kernel_rfl) ?_
    have hSw0:(Fr C0 wr) _:=(Fr.refl _ wr).drew
    refine tk 0 hSw0 ?_
    refine tk 1 hSw0 ?_
    refine tk 2 hSw0 ?_
    refine tk 3 hSw0 ?_ (hy:=by intro w_ hS_;have c0:=hS_.cell0 b0;have c1:=hS_.cell0 b1;have c2:=hS_.cell0 b2;have c3:=hS_.cell0 b3;first|(go_simp;done)|(go_simp;with_reducible rfl))
    refine tk 4 hSw0 ?_
    refine tk 5 hSw0 ?_
    refine tk 6 hSw0 ?_
    refine tk 7 hSw0 ?_ (hy:=by intro w_ hS_;have c0:=hS_.cell0 b0;have c1:=hS_.cell0 b1;have c2:=hS_.cell0 b2;have c3:=hS_.cell0 b3;first|(go_simp;done)|(go_simp;with_reducible rfl))
    refine tk 8 hSw0 ?_
    refine tk 9 hSw0 ?_
    refine tk 10 hSw0 ?_
    refine tk 11 hSw0 ?_
    refine tk 12 hSw0 ?_
    refine tk 13 hSw0 ?_ (hy:=by intro w_ hS_;have c0:=hS_.cell0 b0;have c1:=hS_.cell0 b1;have c2:=hS_.cell0 b2;have c3:=hS_.cell0 b3;first|(go_simp;done)|(go_simp;with_reducible rfl))
    refine tk 14 hSw0 ?_
    refine tk 15 hSw0 ?_
    refine tk 16 hSw0 ?_
    refine tk 17 hSw0 ?_
    refine tk 18 hSw0 ?_
    refine tk 19 hSw0 ?_ (hy:=by intro w_ hS_;have c0:=hS_.cell0 b0;have c1:=hS_.cell0 b1;have c2:=hS_.cell0 b2;have c3:=hS_.cell0 b3;first|(go_simp;done)|(go_simp;with_reducible rfl))
    refine tk 20 hSw0 ?_
    refine tk 21 hSw0 ?_
    refine tk 22 hSw0 ?_
    refine tk 23 hSw0 ?_
    refine tk 24 hSw0 ?_
    refine z1y (by kernel_rfl) ?_ _
    have q0:IntKind.u32.wrap (l2[0].toNat:Int)=(l2[0].toNat:Int):=wraps_u32' _ (by omega) (by omega)
    have q1:IntKind.u32.wrap (l2[1].toNat:Int)=(l2[1].toNat:Int):=wraps_u32' _ (by omega) (by omega)
    have q2:IntKind.u32.wrap (l2[2].toNat:Int)=(l2[2].toNat:Int):=wraps_u32' _ (by omega) (by omega)
    have q3:IntKind.u32.wrap (l2[3].toNat:Int)=(l2[3].toNat:Int):=wraps_u32' _ (by omega) (by omega)
    simp only[q0,q1,q2,q3,w1',w2',w3']
    have hx4:bits .xor .u32 x (bits .or .u32 (bits .or .u32 (bits .or .u32 (l2[0].toNat:Int) ((l2[1].toNat:Int)*256)) ((l2[2].toNat:Int)*65536)) ((l2[3].toNat:Int)*16777216))=crc4in x l2[0] l2[1] l2[2] l2[3]:=rfl
    rw[hx4]
    have hu4:U32 (crc4in x l2[0] l2[1] l2[2] l2[3]):=z3w _ _ _
    clear hx4 q0 q1 q2 q3 w1' w2' w3' b0 b1 b2 b3 i0 i1 i2 i3 y0 y1 y2 y3
    generalize hX:crc4in x l2[0] l2[1] l2[2] l2[3]=X at hu4⊢
    have hXu:=hu4
    obtain⟨ua,ub⟩:=hu4
    have a0:=z42 hXu
    have a1:bits .and .u32 (X / 256) 255=X / 256 % 256:=z42 ⟨by omega,by omega⟩
    have a2:bits .and .u32 (X / 65536) 255=X / 65536 % 256:=z42 ⟨by omega,by omega⟩
    have cellT:∀k i,k<4→i<256→wr.cell? ⟨w.heap.size,k*256+i,none⟩=some (.int .u32 (tab k i)):=fun k i hk hi=>by
     rw[cell_of_row wr _ _ _ _ _ HG.out];exact HT.out k i hk hi
    have t3:wr.cell? ⟨w.heap.size,768+(X % 256).toNat,none⟩=_:=cellT 3 _ (by omega) (by omega)
    have t2:wr.cell? ⟨w.heap.size,512+(X / 256 % 256).toNat,none⟩=_:=cellT 2 _ (by omega) (by omega)
    have t1:wr.cell? ⟨w.heap.size,256+(X / 65536 % 256).toNat,none⟩=_:=cellT 1 _ (by omega) (by omega)
    have t0:wr.cell? ⟨w.heap.size,(X / 16777216).toNat,none⟩=some (.int .u32 (tab 0 (X / 16777216).toNat)):=by simpa using cellT 0 (X / 16777216).toNat (by omega) (by omega)
    have r0:0≤X % 256:=by omega
    have r1:0≤X / 256 % 256:=by omega
    have r2:0≤X / 65536 % 256:=by omega
    have r3:0≤X / 16777216:=by omega
    have s0:X % 256<256:=by omega
    have s1:X / 256 % 256<256:=by omega
    have s2:X / 65536 % 256<256:=by omega
    have s3:X / 16777216<256:=by omega
    clear cellT
    go_wp2
    refine z1z (Fr C0 wr) [] (by kernel_rfl) ?_
    have hSw0:(Fr C0 wr) _:=((Fr.refl _ wr).drew).drew
    refine tk 0 hSw0 ?_
    refine tk 1 hSw0 ?_
    refine tk 2 hSw0 ?_
    refine tk 3 hSw0 ?_
    refine tk 4 hSw0 ?_ (hy:=by intro w_ hS_;have c0:=hS_.cell0 t0;have c1:=hS_.cell0 t1;have c2:=hS_.cell0 t2;have c3:=hS_.cell0 t3;first|(go_simp;done)|(go_simp;with_reducible rfl))
    refine tk 5 hSw0 ?_
    refine tk 6 hSw0 ?_
    refine tk 7 hSw0 ?_
    refine tk 8 hSw0 ?_
    refine tk 9 hSw0 ?_
    refine tk 10 hSw0 ?_ (hy:=by intro w_ hS_;have c0:=hS_.cell0 t0;have c1:=hS_.cell0 t1;have c2:=hS_.cell0 t2;have c3:=hS_.cell0 t3;first|(go_simp;done)|(go_simp;with_reducible rfl))
    refine tk 11 hSw0 ?_
    refine tk 12 hSw0 ?_
    refine tk 13 hSw0 ?_
    refine tk 14 hSw0 ?_
    refine tk 15 hSw0 ?_
    refine tk 16 hSw0 ?_
    refine tk 17 hSw0 ?_ (hy:=by intro w_ hS_;have c0:=hS_.cell0 t0;have c1:=hS_.cell0 t1;have c2:=hS_.cell0 t2;have c3:=hS_.cell0 t3;first|(go_simp;done)|(go_simp;with_reducible rfl))
    refine tk 18 hSw0 ?_
    refine tk 19 hSw0 ?_
    refine tk 20 hSw0 ?_
    refine tk 21 hSw0 ?_
    refine tk 22 hSw0 ?_
    refine tk 23 hSw0 ?_ (hy:=by intro w_ hS_;have c0:=hS_.cell0 t0;have c1:=hS_.cell0 t1;have c2:=hS_.cell0 t2;have c3:=hS_.cell0 t3;first|(go_simp;done)|(go_simp;with_reducible rfl))
    refine tk 24 hSw0 ?_
    refine tk 25 hSw0 ?_
    refine z1y (by kernel_rfl) ?_ _
    go_wp2
    refine⟨?_,by simp;omega⟩
    have hdr:=HB.out.drop (i:=4) h4
    have hform:(if c=4 then some (⟨g,o,none⟩:Addr) else some ⟨g,o+4,none⟩)=(if c=4 then some (⟨g,o,none⟩:Addr) else(some (⟨g,o,none⟩:Addr)).map (·.add 4)):=by
     split<;>rfl
    have hfin:crcAll (crc4out X) (l2.drop 4)=crcAll x l2:=by
     obtain⟨a,b,c',d,l3,rfl⟩:∃a b c' d l3,l2=a::b::c'::d::l3:=by
      match l2,h4 with
      |a::b::c'::d::l3,_=>exact⟨a,b,c',d,l3,rfl⟩
     rw[←hX];rfl
    have hlen:(l2.drop 4).length=l2.length-4:=by simp
    refine⟨_,_,l2.drop 4,crc4out X,by rw[hform,hlen],by rw[hlen];omega,by rw[hlen];omega,rfl,zhd ?_,zhd (hfin.trans HC.out),zhd (z3w _ _ _),zhd HF.out.drew.drew,HG⟩
    rw[hlen]
    exact hdr.fr0 (Fr.refl C0 wr).drew.drew
  · go_wp2
    go_loopw [4,6,64] (fun r _ i wr2=>∃(k:Nat) (x:Int),k≤l2.length∧r=.int .u32 x∧i=.int .i64 (k:Int)∧Hid (crcAll x (l2.drop k)=crcAll 4294967295 l)∧Hid (U32 x)∧wr2=wr) (fun _ _ i _=>l2.length-(intOf i).toNat)
    case atStart=>exact⟨0,x,by omega,rfl,rfl,HC,HU,rfl⟩
    case round=>
     clear HC HU
     obtain⟨k,x,hk,rfl,rfl,HC,HU,rfl⟩:=hrel
     by_cases hlt:k<l2.length
     · obtain⟨g,o,rfl,_,b0⟩:=HB.out.at_ k hlt
       have y0:=l2[k].toNat_lt
       have hu:=HU.out
       obtain⟨ua,ub⟩:=hu
       obtain⟨m0,m1⟩:=z45 .xor (x % 256) (l2[k].toNat:Int)
       have t0:wr.cell? ⟨w.heap.size,(bits .xor .u8 (x % 256) (l2[k].toNat:Int)).toNat,none⟩=some (.int .u32 (tab 0 (bits .xor .u8 (x % 256) (l2[k].toNat:Int)).toNat)):=by
        rw[cell_of_row wr _ _ _ _ _ HG.out];simpa using HT.out 0 _ (by omega) (show(bits .xor .u8 (x % 256) (l2[k].toNat:Int)).toNat<256 by omega)
       go_wp2
       go_roundw
       case rel=>
        have e:=HC.out
        rw[List.drop_eq_getElem_cons hlt,z44 _ _ _ (by simp;omega)] at e
        exact⟨k+1,crcByte x l2[k],by omega,rfl,by go_num,zhd e,zhd (z3w _ _ _),by trivial⟩
       case measure=>simp[intOf];omega
     · obtain rfl:k=l2.length:=by omega
       go_wp2
       go_ret
       have e:=HC.out
       rw[List.drop_length] at e
       have e2:x=crcAll 4294967295 l:=e
       refine⟨?_,HF.out⟩
       subst e2
       rfl
end
end Go.Proofs.YtidalepbkljkpaaGreat
