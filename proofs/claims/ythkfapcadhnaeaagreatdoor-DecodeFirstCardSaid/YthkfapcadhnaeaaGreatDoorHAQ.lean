/- What sheaveref07.uses computes. Drafts of schemas that come in. Small functions on drafts: kind, Named, low, high. No condition. -/
import Derived.Test.YthkfapcadhnaeaaGreatDoorHAH
import Derived.Test.YthkfapcadhnaeaaGreatDoorHAM
import Derived.Deep.RegionHeld3
import Derived.IntWalk
set_option maxHeartbeats 1600000
namespace Go.Proofs.YthkfapcadhnaeaaGreatDoor
open Go.ChangeShapes Go.WideShapes Go.ChangeAt Go.RowKit
set_option maxRecDepth 100000 in
theorem Rl (x:aC) (vs vm:Value) (w:World) (hk:fJ x.kind) (hl:x.aj.length≤6000000000000) (ht:eX w w.heap.size x vs vm) :
  Calls Tryz.prog 85 #[aS x vs vm] w (VX (jm x) w):=by
 obtain ⟨C1,m1,C2,m2,rfl,rfl,-,-⟩:=ht.forms
 have HT:=Lib.hid ht
 have hk0:=hk
 clear ht hk
 go_enter Tryz.func85,Tryz.ntmps85
 go_upto_region 1 with fail
 generalize dJ:w.alloc _=wd2
 have ⟨hb1,T⟩:=bH dJ
 clear dJ
 have hw4:=hb1
 clear hb1
 generalize aS x (.slice C1 x.syms.length m1) (.slice C2 x.aj.length m2)=s0
 have bP:=T.out.e6
 have HT0:=Lib.hid T.out
 have hB0:=hw4
 go_wp2_with fail
 go_loopw [3,4] (fun s3 i wr => ∃ k:Nat,k≤x.aj.length∧i = .int .i64 k∧wr.ownsRow (w.heap.size+1) 3 1 s3 k ((x.aj.take k).map D7)∧Has wr w.heap.size 69 #[.int .i64 x.kind,.string ⟨x.name.toArray⟩,.int .i64 x.low,.int .i64 x.high,.int .i64 x.max,.slice C1 x.syms.length m1,.slice C2 x.aj.length m2,.int .i64 x.key,.int .i64 x.elem,.bool x.opn]∧Below w.heap.size w wr) (fun _ i _ => x.aj.length - (intOf i).toNat)
 case atStart => exact ⟨0,by omega,rfl,World.ownsRow_nil _ _ _ _,HT0.out,hB0⟩
 case round =>
  clear T hB0 HT0
  obtain ⟨k,hk,rfl,hown,T,hb⟩:=hrel
  obtain ⟨A0,c0,rfl⟩:=aF hown
  replace T:=Lib.hid T
  have O:=Lib.hid (Kept.own hown)
  clear hown
  by_cases hlt:k < x.aj.length
  ·
   obtain ⟨b,o,hC2,hb1,hel⟩:=HT.out.aj.elem (by omega)
   obtain ⟨dk,di,dr,hcells,hma⟩:=hel k hlt
   have HTK:Hid ((x.aj.take (k+1)).map D7=(x.aj.take k).map D7 ++ [.int .i64 x.aj[k].ty]):=yh D7 x.aj k hlt
   generalize x.aj[k]=m at *
   obtain ⟨D1,d1,D2,d2,D3,d3,rfl,rfl,rfl,-,-,-⟩:=hma.dflt.forms
   obtain ⟨y0,y1,y2,y3,y4,y5,y6,y7,y8,y9,BJ,BK,BL⟩:=hcells
   have x0:=(hb.cell (p:=⟨b,_,none⟩) hb1).trans y0
   have x1:=(hb.cell (p:=⟨b,_,none⟩) hb1).trans y1
   have x2:=(hb.cell (p:=⟨b,_,none⟩) hb1).trans y2
   have x3:=(hb.cell (p:=⟨b,_,none⟩) hb1).trans y3
   have x4:=(hb.cell (p:=⟨b,_,none⟩) hb1).trans y4
   have x5:=(hb.cell (p:=⟨b,_,none⟩) hb1).trans y5
   have x6:=(hb.cell (p:=⟨b,_,none⟩) hb1).trans y6
   have x7:=(hb.cell (p:=⟨b,_,none⟩) hb1).trans y7
   have x8:=(hb.cell (p:=⟨b,_,none⟩) hb1).trans y8
   have x9:=(hb.cell (p:=⟨b,_,none⟩) hb1).trans y9
   have x10:=(hb.cell (p:=⟨b,_,none⟩) hb1).trans BJ
   have x11:=(hb.cell (p:=⟨b,_,none⟩) hb1).trans BK
   have x12:=(hb.cell (p:=⟨b,_,none⟩) hb1).trans BL
   clear y0 y1 y2 y3 y4 y5 y6 y7 y8 y9 BJ BK BL
   have hi1:(k:Int) < x.aj.length:=by omega
   clear hel hma
   clear x0 x1 x3 x4 x5 x6 x7 x8 x9 x10 x11 x12
   have bP:=T.out.e6
   go_upto_region 5 with fail
   have hbase:w.heap.size+1≤wr.heap.size:=T.out.here
   go_upto_region 4 with (at_builtin;refine gW rfl _ _ _ rfl (w.heap.size+1) 3 _ 1 8 Tryz.underlying36 jP rfl (by decide) _ (k) _ rfl O.out.now [.int .i64 m.ty] _ 1 _ rfl rfl rfl (by simp [Value.oneCell']) (by omega) (by omega) hbase ?_;intro g cap w3 hown3 hg3 hgat hb3)
   clear hg3 hgat hbase
   clear bP
   clear O
   replace T:=Lib.hid (T.out.below hb3 (show w.heap.size < w.heap.size+1 by omega))
   replace hb:=hb.trans (hb3.mono (show w.heap.size≤w.heap.size+1 by omega))
   have O:=Lib.hid (Kept.own hown3)
   clear hown3
   clear hC2 x2
   go_wp2_with fail
   go_roundw
   case rel => exact ⟨k+1,by omega,by go_num,by rw [HTK.out];exact O.out.now,T.out,hb⟩
   case measure => simp [intOf];omega
  obtain rfl:k=x.aj.length:=by omega
  rw [List.take_of_length_le (Nat.le_refl _)] at O
  have bP:=T.out.e6
  go_upto_region 6 with fail
  clear bP
  by_cases h8:x.kind=8
  ·
   have t8:(x.kind == 8)=true:=by simp [h8]
   have t7:(7:Int)≤x.kind:=by omega
   have u7:(x.kind == 7)=false:=beq_eq_false_iff_ne.2 (by omega)
   have zq:Hid (jm x=x.aj.map Mem.ty ++ [x.key,x.elem]):=by show _=_;unfold jm;rw [if_pos h8,if_pos t7];rfl
   clear h8
   have aA:=T.out.e0
   have cZ:=T.out.e7
   have hbase:w.heap.size+1≤wr.heap.size:=T.out.here
   go_upto_region 8 with (at_builtin;refine gW rfl _ _ _ rfl (w.heap.size+1) 3 _ 1 8 Tryz.underlying36 jP rfl (by decide) _ (x.aj.length) _ rfl O.out.now [.int .i64 x.key] _ 1 _ rfl rfl rfl (by simp [Value.oneCell']) (by omega) (by omega) hbase ?_;intro g cap w3 hown3 hg3 hgat hb3)
   clear hg3 hgat hbase
   clear aA cZ
   clear O
   replace T:=Lib.hid (T.out.below hb3 (show w.heap.size < w.heap.size+1 by omega))
   replace hb:=hb.trans (hb3.mono (show w.heap.size≤w.heap.size+1 by omega))
   have O:=Lib.hid (Kept.own hown3)
   clear hown3
   have aA:=T.out.e0
   have bU:=T.out.e8
   have hbase:w.heap.size+1≤w3.heap.size:=T.out.here
   go_upto_region 10 with (at_builtin;refine gW rfl _ _ _ rfl (w.heap.size+1) 3 _ 1 8 Tryz.underlying36 jP rfl (by decide) _ (x.aj.length+1) _ rfl O.out.now [.int .i64 x.elem] _ 1 _ rfl rfl rfl (by simp [Value.oneCell']) (by omega) (by omega) hbase ?_;intro g cap w3 hown3 hg3 hgat hb3)
   clear hg3 hgat hbase
   clear aA bU
   clear O
   replace T:=Lib.hid (T.out.below hb3 (show w.heap.size < w.heap.size+1 by omega))
   replace hb:=hb.trans (hb3.mono (show w.heap.size≤w.heap.size+1 by omega))
   have O:=Lib.hid (Kept.own hown3)
   clear hown3
   go_wp2_with fail
   go_ret
   exact ⟨_,rfl,vJ O.out.now (by rw [zq.out];simp [D7]) (by rw [zq.out];simp),hb⟩
  have t8:(x.kind == 8)=false:=by simpa using h8
  by_cases h7:7≤x.kind
  ·
   have Rn:x.kind=7∨x.kind=9:=by unfold fJ at hk0;omega
   have zq:Hid (jm x=x.aj.map Mem.ty ++ [x.elem]):=by show _=_;unfold jm;rw [if_neg h8,if_pos h7];rfl
   clear h8 h7
   rcases Rn with Rn | Rn
   ·
    have u7:(x.kind == 7)=true:=by simp [Rn]
    clear Rn
    have aA:=T.out.e0
    have bU:=T.out.e8
    have hbase:w.heap.size+1≤wr.heap.size:=T.out.here
    go_upto_region 10 with (at_builtin;refine gW rfl _ _ _ rfl (w.heap.size+1) 3 _ 1 8 Tryz.underlying36 jP rfl (by decide) _ (x.aj.length) _ rfl O.out.now [.int .i64 x.elem] _ 1 _ rfl rfl rfl (by simp [Value.oneCell']) (by omega) (by omega) hbase ?_;intro g cap w3 hown3 hg3 hgat hb3)
    clear hg3 hgat hbase
    clear aA bU
    clear O
    replace T:=Lib.hid (T.out.below hb3 (show w.heap.size < w.heap.size+1 by omega))
    replace hb:=hb.trans (hb3.mono (show w.heap.size≤w.heap.size+1 by omega))
    have O:=Lib.hid (Kept.own hown3)
    clear hown3
    go_wp2_with fail
    go_ret
    exact ⟨_,rfl,vJ O.out.now (by rw [zq.out];simp [D7]) (by rw [zq.out];simp),hb⟩
   have u7:(x.kind == 7)=false:=by simp [Rn]
   have u9:(x.kind == 9)=true:=by simp [Rn]
   clear Rn
   have aA:=T.out.e0
   have bU:=T.out.e8
   have hbase:w.heap.size+1≤wr.heap.size:=T.out.here
   go_upto_region 10 with (at_builtin;refine gW rfl _ _ _ rfl (w.heap.size+1) 3 _ 1 8 Tryz.underlying36 jP rfl (by decide) _ (x.aj.length) _ rfl O.out.now [.int .i64 x.elem] _ 1 _ rfl rfl rfl (by simp [Value.oneCell']) (by omega) (by omega) hbase ?_;intro g cap w3 hown3 hg3 hgat hb3)
   clear hg3 hgat hbase
   clear aA bU
   clear O
   replace T:=Lib.hid (T.out.below hb3 (show w.heap.size < w.heap.size+1 by omega))
   replace hb:=hb.trans (hb3.mono (show w.heap.size≤w.heap.size+1 by omega))
   have O:=Lib.hid (Kept.own hown3)
   clear hown3
   go_wp2_with fail
   go_ret
   exact ⟨_,rfl,vJ O.out.now (by rw [zq.out];simp [D7]) (by rw [zq.out];simp),hb⟩
  have zq:Hid (jm x=x.aj.map Mem.ty):=by show _=_;unfold jm;rw [if_neg h8,if_neg h7];simp
  have u7:(x.kind == 7)=false:=beq_eq_false_iff_ne.2 (by omega)
  have u9:(x.kind == 9)=false:=beq_eq_false_iff_ne.2 (by omega)
  clear h8 h7
  have aA:=T.out.e0
  go_wp2_with fail
  go_ret
  exact ⟨_,rfl,vJ O.out.now (by rw [zq.out];simp [D7]) (by rw [zq.out];simp),hb⟩
end Go.Proofs.YthkfapcadhnaeaaGreatDoor
namespace Go.Proofs.YthkfapcadhnaeaaGreatDoor
open Go.ChangeShapes Go.WideShapes Go.ChangeAt Go.RowKit Go.Joins
abbrev Prt:=Nat × Nat × Nat
structure Ro where
 kind:Nat
 a:Nat
 b:Nat
 c:Nat
 parts:List Prt
def ajO (p:Prt):List Value:=[.int .u8 p.1,.int .u8 p.2.1,.int .u8 p.2.2]
def aia (p:Prt):Prop:=p.1 < 256∧p.2.1 < 256∧p.2.2 < 256
def amM (x:Ro) (vp:Value):List Value:=[.int .u8 x.kind,.int .u8 x.a,.int .u8 x.b,.int .u8 x.c,vp]
structure af5 (w:World) (B:Nat) (x:Ro) (vp:Value):Prop where
 ints:x.kind < 256∧x.a < 256∧x.b < 256∧x.c < 256
 len:x.parts.length≤140737488351232
 ins:∀ p ∈ x.parts,aia p
 parts:Rd w B 3 vp x.parts.length (x.parts.flatMap ajO)
def xg (w:World) (B:Nat) (v:Value) (xs:List Ro):Prop := ∃ c:Nat→List Value,Row w B 5 v xs.length c∧∀ (i:Nat) (h:i < xs.length),∃ vp,c i=amM xs[i] vp∧af5 w B xs[i] vp
section
variable {H:Type} {enc:TypeId × Value→H} {w:World} {base:Nat} {spare:Nat→Bool} {held:Bool}
end
end Go.Proofs.YthkfapcadhnaeaaGreatDoor
namespace Go.Proofs.YthkfapcadhnaeaaGreatDoor
open Go.ChangeShapes Go.WideShapes Go.ChangeAt Go.RowKit
theorem xg.keep {w w':World} {B B':Nat} {v:Value} {xs:List Ro} (h:xg w B v xs) (hk:∀ p:Addr,p.block < B→w'.cell? p=w.cell? p) (hB:B≤B'):xg w' B' v xs:=by
 obtain ⟨c,h1,h2⟩:=h
 refine ⟨c,(h1.keep hk).mono hB,fun i hi => ?_⟩
 obtain ⟨vp,e,hn⟩:=h2 i hi
 exact ⟨vp,e,hn.ints,hn.len,hn.ins,(hn.parts.keep hk).mono hB⟩
theorem xg.on {w w':World} {v:Value} {xs:List Ro} (h:xg w w.heap.size v xs) (hb:Below w.heap.size w w'):xg w' w'.heap.size v xs:=h.keep (fun _ hp => hb.cell hp) hb.size
theorem xg.form {w:World} {B:Nat} {v:Value} {xs:List Ro} (h:xg w B v xs):∃ A c,v = .slice A xs.length c∧xs.length≤c:=by
 obtain ⟨_,⟨A,c,h1,h2,_⟩,_⟩:=h
 exact ⟨A,c,h1,h2⟩
def aib (w:World) (b o:Nat) (x:Ro) (vp:Value):Prop :=
 w.cell? ⟨b,o,none⟩=some (.int .u8 x.kind)∧w.cell? ⟨b,o+1,none⟩=some (.int .u8 x.a)∧w.cell? ⟨b,o+2,none⟩=some (.int .u8 x.b)∧w.cell? ⟨b,o+3,none⟩=some (.int .u8 x.c)∧w.cell? ⟨b,o+4,none⟩=some vp
theorem xg.elem {w:World} {B n cap:Nat} {A:Option Addr} {xs:List Ro} (h:xg w B (.slice A n cap) xs) (hpos:0 < xs.length):∃ b o,A=some ⟨b,o,none⟩∧b < B∧∀ k (hk:k < xs.length),∃ vp,aib w b (o+k*5) xs[k] vp∧af5 w B xs[k] vp:=by
 obtain ⟨c,⟨A',c',hv,hc,h2⟩,h3⟩:=h
 injection hv with h4 h5 h6
 subst h4
 rcases h2 with h2 | ⟨b,o,hA,hb,hcell⟩
 · omega
 refine ⟨b,o,hA,hb,fun k hk => ?_⟩
 obtain ⟨vp,hcs,hm⟩:=h3 k hk
 have hc:=hcell k hk
 rw [hcs] at hc
 exact ⟨vp,⟨hc 0 _ rfl,hc 1 _ rfl,hc 2 _ rfl,hc 3 _ rfl,hc 4 _ rfl⟩,hm⟩
set_option maxRecDepth 100000 in
theorem Lj (k:Int) (w:World):Calls Tryz.prog 83 #[.int .i64 k] w fun e w' => e = .returned (.bool (decide (1≤k) && decide (k≤4)))∧w=w':=by
 by_cases h1:1≤k
 ·
  have d1:decide (1≤k)=true:=decide_eq_true h1
  by_cases h2:k≤4
  ·
   have d2:decide (k≤4)=true:=decide_eq_true h2
   go_enter Tryz.func83,Tryz.ntmps83
   go_wp2_with fail
   go_ret
   exact ⟨au (by simp [h1,h2]),rfl⟩
  have d2:decide (k≤4)=false:=decide_eq_false h2
  go_enter Tryz.func83,Tryz.ntmps83
  go_wp2_with fail
  go_ret
  exact ⟨au (by first | (simp;done) | (simp;omega)),rfl⟩
 have d1:decide (1≤k)=false:=decide_eq_false h1
 go_enter Tryz.func83,Tryz.ntmps83
 go_wp2_with fail
 go_ret
 exact ⟨au (by first | (simp;done) | (simp;omega)),rfl⟩
end Go.Proofs.YthkfapcadhnaeaaGreatDoor
