/- Plain: a schema of copies of a draft's schema has the same canonical bytes. The walk of FingerprintCopies: the canonical bytes do not tell a root from its copy. Condition: what Copied computes. No condition. -/
import Derived.Test.YtlamhkffnlgofaaGreatDoorHAY
import Derived.Test.YtlamhkffnlgofaaGreatDoorHAR
import Derived.Test.YtlamhkffnlgofaaGreatDoorCopP
import Derived.Test.YtlamhkffnlgofaaGreatDoorDraftG
set_option maxHeartbeats 2000000
set_option maxRecDepth 100000
namespace Go.Proofs.YtlamhkffnlgofaaGreatDoor
open Go.ChangeShapes Go.WideShapes Go.ChangeAt Go.RowKit
theorem aAP (xs:List fJ):∀ x ∈ jw xs,x.name.length≤1:=by
 intro x hx;obtain ⟨i,hi,rfl⟩:=List.mem_iff_getElem.1 hx;rw [Bo] at hi;rw [FW xs i hi];have hn:∀ b:Bool,(if b then lN i else []).length≤1:=fun b => by cases b <;> simp [lN]
 unfold iL;simp only
 repeat' split
 all_goals first
  | exact hn true
  | (simp [iM];done)
theorem azy (xs:List fJ) (i:Nat) (x:fJ):(iL xs i x).name = []∨(iL xs i x).name=lN i:=by
 have hn:∀ b:Bool,(if b then lN i else []) = []∨(if b then lN i else [])=lN i:=fun b => by cases b <;> simp
 unfold iL;simp only
 repeat' split
 all_goals first
  | exact .inr rfl
  | exact .inl rfl
  | exact hn _
theorem aBV {i j:Nat} (hi:i < 26) (hj:j < 26) (h:lN i=lN j):i=j:=by
 unfold lN at h;have h2:=(List.cons.inj h).1;have h3:=congrArg UInt8.toNat h2;rw [UInt8.toNat_ofNat_of_lt' (by show _ < 256;omega),UInt8.toNat_ofNat_of_lt' (by show _ < 256;omega)] at h3;omega
theorem aEi (xs:List fJ) (h5:xs.length≤5):(jw xs).Pairwise fun a b => b.name≠[]→a.name≠b.name:=by
 rw [List.pairwise_iff_getElem];intro i j hi hj hij;rw [Bo] at hi hj;rw [FW xs i hi,FW xs j hj];intro hne he;rcases azy xs j xs[j] with h | h
 · exact hne h
 rcases azy xs i xs[i] with g | g
 · rw [g] at he;exact hne he.symm
 rw [g,h] at he;have:=aBV (by omega) (by omega) he;omega
theorem aDs (xs:List fJ):∀ x ∈ jw xs,ayj x:=by
 intro x hx;have hn:=aAP xs x hx;obtain ⟨i,hi,rfl⟩:=List.mem_iff_getElem.1 hx;rw [Bo] at hi;rw [FW xs i hi] at hn ⊢;have hp:∀ rc ps,∀ m ∈ oH xs i rc ps,m.name.length≤20:=fun rc ps m hm => by
  obtain ⟨id,p,_,_,_,h3⟩:=CW xs i rc ps 12 m hm;unfold partOf at h3;split at h3
  · cases h3
  split at h3
  · injection h3 with h3;rw [← h3];simp [tN]
  cases h3
 refine ⟨by omega,fun s hs => ?_,fun m hm => ?_⟩
 ·
  unfold iL at hs;simp only at hs
  repeat' split at hs
  all_goals first
   | (simp [iM] at hs;done)
   | (obtain ⟨a,_,rfl⟩:=List.mem_map.1 hs;simp [tN])
 unfold iL at hm;simp only at hm
 repeat' split at hm
 all_goals first
  | exact hp _ _ m hm
  | (simp [iM] at hm;done)
section
variable {ts us:List ay} (hv:fF ts=0) (h16:ts.length≤16) (hsh:∀ x ∈ ts,ayj x) (h1:∀ x ∈ ts,x.name.length≤1) (hp:ts.Pairwise fun a b => b.name≠[]→a.name≠b.name) (h:ayk ts us)
include h
theorem aB6 {y:ay} (hy:y ∈ us):∃ x ∈ ts,∃ sx,awQ ts.length sx x y:=by
 obtain ⟨i,hi,rfl⟩:=List.mem_iff_getElem.1 hy;have hl:=h.1;have hm:i % ts.length < ts.length:=Nat.mod_lt _ (by omega);exact ⟨_,List.getElem_mem hm,_,h.2 i _ _ (List.getElem?_eq_getElem hm) (List.getElem?_eq_getElem hi)⟩
theorem aEj (hI:akg ts):akg us:=fun y hy => by
 obtain ⟨x,hx,sx,hc⟩:=aB6 h hy;rw [hc.low,hc.high];exact hI x hx
theorem aCd (hs:Sizes ts):Sizes us:=fun y hy => by
 obtain ⟨x,hx,sx,hc⟩:=aB6 h hy;rw [hc.syms,List.length_map,hc.arT];exact hs x hx
include hv h16 hsh h1 hp
theorem aAH {i:Nat} (hi:i < ts.length):og us i=og ts i :=
 (ay8 hv (ayl hv h16 hsh h1 hp h) (aEk hv h hi)).symm
theorem aDt {i:Nat} (hi:i < ts.length):aj2 us (i:Nat)=aj2 ts (i:Nat):=by
 have hl:=h.1;unfold aj2;rw [Int.toNat_natCast,aAH hv h16 hsh h1 hp h hi,awf hv hi,awf (ayl hv h16 hsh h1 hp h) (t:=i) (by omega)]
theorem aCe (hI:akg ts) (hD:acM ts) (h0:aqB ts) (hs:Sizes ts) {i:Nat} (hi:i < ts.length) {w:World} (hpw:aj0 w) {A:Option Addr} {c:Nat} (hr:aU w w.heap.size (.slice A us.length c) us) :
  Calls Tryz.prog 22 #[.agg #[.slice A us.length c,.int .i64 (i:Nat)]] w (RT w (.tuple #[.string ⟨(BN (og ts i)).toArray⟩,.int .i64 0])):=by
 have hb:=aBn hv hi hD h0;have hc:=aAH hv h16 hsh h1 hp h hi;have hx:=ayD us A c (i:Nat) w (aCd h hs) hr hpw (aEj h hI) (fun _ _ => by rw [Int.toNat_natCast,hc];exact hb.2) (fun _ _ => by
  rw [Int.toNat_natCast,hc];exact avs (akP hv hi) (ari hv hi hI) (aoU hv hi hD) (as7 hv hi h0))
 rw [aDt hv h16 hsh h1 hp h hi,hb.1] at hx;exact hx
end
theorem Kept.aEt {w:World} {L B:Nat} {v:Value} {xs:List ay} (h:Kept (fun w => aU w B v xs) w L B):aU w w.heap.size v xs:=h.now.keep (fun _ _ => rfl) h.le
def aAJ (ts:List ay) (w:World) (e:Ending) (w':World):Prop := ∃ us A c,e = .returned (.agg #[.slice A us.length c])∧ayk ts us∧aU w' w'.heap.size (.slice A us.length c) us∧Below w.heap.size w w'
theorem aHz (xs:List fJ) (vn:Value) (p:Nat) (hpb:p < 256) (bits:Nat) (w:World) (hp:aj0 w) (hr:jR w w.heap.size vn xs)
  (hcn:∀ (W:World) (ts:List ay) (A:Option Addr) (c:Nat),fF ts=0→0 < ts.length→ts.length≤5→aU W W.heap.size (.slice A ts.length c) ts→(∀ x ∈ ts,ayj x)→Calls Tryz.prog 27 #[.agg #[.slice A ts.length c],.int .u64 (bits:Nat)] W (aAJ ts W)) :
  Calls Tryz.prog 7 #[.agg #[vn],.int .u8 p,.int .u64 (bits:Nat)] w (RT w (.bool true)):=by
 have HP:=hiQ hp;obtain ⟨A,c,rfl,hcap⟩:=hr.form;have HR:=hiQ hr;clear hp hr;cases hok:Vu xs with
 | false =>
  have HN6:=hiQ (fun W h => akk xs (.slice A xs.length c) W hok h);clear hok hcn;go_enter Tryz.func7,Tryz.ntmps7
  go_upto_region 1 with fail;refine aO (fun wd2 hb1 D => ?_);have hw3:=hb1;clear hb1;have dW:=D.out.e0;go_wp2_with fail;clear dW;((with_reducible refine (HN6.out _ (HR.out.on hw3)).mono ?_);rintro e wd4 ⟨rfl,hb5⟩);replace D:=b1 D hb5;replace hw3:=dT hw3 hb5;clear hb5;go_upto_region 2 with fail;refine aO (fun jC hb6 S1 => ?_);have kH:=D.out.here;have oC:=hw3.size;replace D:=b1 D hb6;replace hw3:=dT hw3 hb6;clear hb6;generalize wd4.heap.size=g8 at *;go_wp2_with fail;((with_reducible refine (Eb _ (HP.out.on hw3)).mono ?_);rintro e dw ⟨rfl,fV⟩);obtain ⟨D,S1⟩:=b2 D S1 fV;replace hw3:=dT hw3 fV;clear fV;go_wp2_with fail;((with_reducible refine (Eb _ (HP.out.on hw3)).mono ?_);rintro e dQ ⟨rfl,jh⟩);obtain ⟨D,S1⟩:=b2 D S1 jh;replace hw3:=dT hw3 jh;clear jh;go_wp2_with fail;go_ret;exact ⟨rfl,hw3⟩
 | true =>
  have hok2:0 < xs.length∧xs.length≤5:=by unfold Vu at hok;simp at hok;omega
  have HO6:=hiQ (fun W h => aiq xs (.slice A xs.length c) W hok2 h);unfold abB at HO6;have hv1:=ac7 xs hok2.2;have hs1:=auS xs;have hD1:=axl xs;have hI1:=axk xs;have hZ1:=awp xs;have hN1:=aAP xs;have hS1:=aDs xs;have hP1:=aEi xs hok2.2;have hl1:p % (jw xs).length < (jw xs).length:=Nat.mod_lt _ (by rw [Bo];exact hok2.1);have aHb:0 < (jw xs).length:=by rw [Bo];exact hok2.1
  have aFm:(jw xs).length≤5:=by rw [Bo];exact hok2.2
  generalize jw xs=ts at *;clear hok hok2;obtain ⟨i,hie⟩ : ∃ i,i=p % ts.length:=⟨_,rfl⟩
  rw [← hie] at hl1;obtain ⟨e1,f1⟩:=aBn hv1 hl1 hD1 hZ1;have HB1:=hiQ (fun (W:World) (A1:Option Addr) (c1:Nat) (h1:aj0 W) (h2:aU W W.heap.size (.slice A1 ts.length c1) ts) => bytesOf hv1 hl1 hI1 hD1 hZ1 e1 f1 hs1 h1 h2);have HB2:=hiQ (fun (W:World) (us:List ay) (A1:Option Addr) (c1:Nat) (hc:ayk ts us) (h1:aj0 W) (h2:aU W W.heap.size (.slice A1 us.length c1) us) => aCe hv1 (by omega) hS1 hN1 hP1 hc hI1 hD1 hZ1 hs1 hl1 h1 h2);have HCN:=hiQ (fun W A1 c1 h => hcn W ts A1 c1 hv1 aHb aFm h hS1);unfold aAJ at HCN;generalize BN (og ts i)=l at *;clear e1 f1 hcn hv1 hs1 hD1 hI1 hZ1 hl1 hN1 hS1 hP1;go_enter Tryz.func7,Tryz.ntmps7
  go_upto_region 1 with fail;refine aO (fun wd2 hb1 D => ?_);have hw3:=hb1;clear hb1;have dW:=D.out.e0;go_wp2_with fail;clear dW;((with_reducible refine (HO6.out _ (HR.out.on hw3)).mono ?_);rintro e wd4 ⟨v1,rfl,hur,hb5⟩);replace D:=b1 D hb5;replace hw3:=dT hw3 hb5;clear hb5;have ajc:=hur.now;obtain ⟨A1,c1,rfl,_⟩:=ajc.form;have T1:=hiQ (Kept.rd (P:=fun w B => aU w B (.slice A1 ts.length c1) ts) ajc (Nat.le_refl _) (fun _ hk => ajc.keep hk (Nat.le_refl _)));clear hur ajc;go_upto_region 2 with fail;refine aO (fun jC hb6 S1 => ?_);have kH:=D.out.here;have oC:=T1.out.le;have sH:=hw3.size;obtain ⟨D,T1⟩:=b2 D T1 hb6;replace hw3:=dT hw3 hb6;clear hb6;generalize wd4.heap.size=g8 at *;go_wp2_with fail;((with_reducible refine (Eb _ (HP.out.on hw3)).mono ?_);rintro e lZ ⟨rfl,kR⟩);obtain ⟨D,S1,T1⟩:=b3 D S1 T1 kR;replace hw3:=dT hw3 kR;clear kR;have hu0:¬ (ts = []):=by intro e;rw [e] at aHb;simp at aHb
  have hp1:IntKind.i64.wrap (p:Int)=p:=IntWalk.i64_in _ (by omega);have hp0:(p:Int).tmod ts.length=((i:Nat):Int):=by rw [hie,Int.tmod_eq_emod_of_nonneg (by omega)];push_cast;rfl
  clear hie;have aBm:=S1.out.e0;go_upto_region 5 with fail;clear aBm hu0 hp1 hp0;have aBm:=S1.out.e0;go_wp2_with fail;clear aBm;((with_reducible refine (HB1.out _ A1 c1 (HP.out.on hw3) T1.out.aEt).mono ?_);rintro e oZ ⟨rfl,o7⟩);obtain ⟨D,S1,T1⟩:=b3 D S1 T1 o7;replace hw3:=dT hw3 o7;clear o7;have aBm:=S1.out.e0;go_wp2_with fail;clear aBm;((with_reducible refine (HCN.out _ A1 c1 T1.out.aEt).mono ?_);rintro e yN ⟨us,A2,c2,rfl,hcs,hr2,mG⟩);obtain ⟨D,S1,T1⟩:=b3 D S1 T1 mG;replace hw3:=dT hw3 mG;clear mG;go_wp2_with fail;((with_reducible refine (HB2.out _ us A2 c2 hcs (HP.out.on hw3) hr2).mono ?_);rintro e yx ⟨rfl,aln⟩);obtain ⟨D,S1,T1⟩:=b3 D S1 T1 aln;replace hw3:=dT hw3 aln;clear aln;go_wp2_with fail;go_ret;exact ⟨au (by simp),hw3⟩
end Go.Proofs.YtlamhkffnlgofaaGreatDoor
