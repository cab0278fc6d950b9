/- What sheaveref07.members computes. No condition. -/
import Derived.Test.YthkfapcadhnaeaaGreatDoorHAO
import Derived.Test.YthkfapcadhnaeaaGreatDoorMembers
set_option maxHeartbeats 4000000
namespace Go.Proofs.YthkfapcadhnaeaaGreatDoor
open Go.ChangeShapes Go.WideShapes Go.ChangeAt Go.RowKit
def gK (rc:Bool) (l:List Mem):Bool:=(l.all (fF (!rc)) && kL (l.map aO) none []) && (decide (l.length≤16) && (rc || decide (1≤l.length)))
theorem XE (l:List Mem) (k:Nat) (h:k < l.length) (f:Mem→Bool) (S:List (List UInt8)) :
  ((l.drop k).all f && kL ((l.map aO).drop k) (jU (l.map aO) k) S)=(FI (pX (l.map aO) k) l[k].id && (nameB l[k].name && (f l[k] && (!S.contains l[k].name && ((l.drop (k+1)).all f && kL ((l.map aO).drop (k+1)) (some l[k].id) (S ++ [l[k].name])))))):=by
 have hk:k < (l.map aO).length:=by simpa using h
 have hg:(l.map aO)[k]=(l[k].id,l[k].name):=by rw [List.getElem_map];rfl
 rw [Qn (l.map aO) k hk,hg,← Bool.and_assoc (qV _),Wp,List.drop_eq_getElem_cons h,List.all_cons]
 simp only
 cases FI (pX (l.map aO) k) l[k].id <;> cases nameB l[k].name <;> cases f l[k] <;> cases S.contains l[k].name <;> simp
set_option maxRecDepth 100000 in
theorem NJ (l:List Mem) (va:Value) (w:World) (hl:l.length≤140737488351232) (h1:lN w w.heap.size va l) :
  Calls Tryz.prog 123 #[va,.bool true] w fun e w' => e = .returned (.bool (gK true l))∧Below w.heap.size w w':=by
 obtain ⟨A,c,rfl,hca⟩:=h1.form
 by_cases hz0:l.length=0
 ·
  have hnil:=List.eq_nil_of_length_eq_zero hz0
  subst hnil
  clear h1
  go_enter Tryz.func123,Tryz.ntmps123
  go_wp2
  refine wp_loop_rounds 1 ?_
  rw [rounds_succ]
  go_wp2
  go_ret
  exact ⟨rfl,Below.refl _ _⟩
 obtain ⟨ba,o1,rfl,hb1,hel⟩:=h1.elem (by omega)
 have BP:=Lib.hid hel
 clear h1 hel
 go_enter Tryz.func123,Tryz.ntmps123
 go_wp2_with fail
 go_loopw [5,6] (fun b i wr => ∃ k:Nat,k≤l.length∧i = .int .i64 k∧b = .int .i64 (pX (l.map aO) k)∧(l.all (fF (!true)) && kL (l.map aO) none [])=((l.drop k).all (fF (!true)) && kL ((l.map aO).drop k) (jU (l.map aO) k) (((l.map aO).take k).map Prod.snd))∧Below w.heap.size w wr) (fun _ i _ => l.length - (intOf i).toNat)
 case atStart => exact ⟨0,by omega,rfl,rfl,by simp [jU],Below.refl _ _⟩
 case round =>
  obtain ⟨k,hk,rfl,rfl,hid,hb⟩:=hrel
  by_cases hlt:k < l.length
  ·
   obtain ⟨dk,di,dr,hcells,hma⟩:=BP.out k hlt
   have hlk:k < (l.map aO).length:=by simpa using hlt
   have hgk:(l.map aO)[k]=(l[k].id,l[k].name):=by rw [List.getElem_map];rfl
   rw [XE l k hlt] at hid
   have HZ:Hid (pX (l.map aO) (k+1)=l[k].id):=by show _=_;rw [Ih _ k hlk,hgk]
   have Ws:Hid (jU (l.map aO) (k+1)=some l[k].id):=by show _=_;rw [qJ _ k hlk,hgk]
   have Wu:Hid (((l.map aO).take k).map Prod.snd ++ [l[k].name]=((l.map aO).take (k+1)).map Prod.snd):=by have h:=sO (l.map aO) k hlk;rw [hgk] at h;exact h
   clear hgk hlk
   generalize l[k]=m at *
   obtain ⟨D1,d1,D2,d2,D3,d3,rfl,rfl,rfl,-,-,-⟩:=hma.dflt.forms
   have Lh:=Lib.hid hma.dflt
   have hsv:∀ W,ValAt W W.heap.size m.dflt (.slice D1 m.dflt.keys.length d1) (.slice D2 m.dflt.items.length d2) (.slice D3 m.dflt.rest.length d3)→Calls Tryz.prog 40 #[iC m.dflt (.slice D1 m.dflt.keys.length d1) (.slice D2 m.dflt.items.length d2) (.slice D3 m.dflt.rest.length d3),.agg #[.int .i64 0,.bool false,.int .i64 0,.string ⟨#[]⟩,.int .i64 0,.slice none 0 0,.slice none 0 0,.slice none 0 0]] W fun e w' => e = .returned (.bool (iH m.dflt kJ))∧Below W.heap.size W w' :=
    fun W h => EG (nodes m.dflt+1) m.dflt kJ _ _ _ (.slice none 0 0) (.slice none 0 0) (.slice none 0 0) W (by omega) h (MP _ _)
   have HSV:=Lib.hid hsv
   obtain ⟨y0,y1,y2,y3,y4,y5,y6,y7,y8,y9,BJ,BK,BL⟩:=hcells
   have x0:=(hb.cell (p:=⟨ba,_,none⟩) hb1).trans y0
   have x1:=(hb.cell (p:=⟨ba,_,none⟩) hb1).trans y1
   have x2:=(hb.cell (p:=⟨ba,_,none⟩) hb1).trans y2
   have x3:=(hb.cell (p:=⟨ba,_,none⟩) hb1).trans y3
   have x4:=(hb.cell (p:=⟨ba,_,none⟩) hb1).trans y4
   have x5:=(hb.cell (p:=⟨ba,_,none⟩) hb1).trans y5
   have x6:=(hb.cell (p:=⟨ba,_,none⟩) hb1).trans y6
   have x7:=(hb.cell (p:=⟨ba,_,none⟩) hb1).trans y7
   have x8:=(hb.cell (p:=⟨ba,_,none⟩) hb1).trans y8
   have x9:=(hb.cell (p:=⟨ba,_,none⟩) hb1).trans y9
   have x10:=(hb.cell (p:=⟨ba,_,none⟩) hb1).trans BJ
   have x11:=(hb.cell (p:=⟨ba,_,none⟩) hb1).trans BK
   have x12:=(hb.cell (p:=⟨ba,_,none⟩) hb1).trans BL
   clear y0 y1 y2 y3 y4 y5 y6 y7 y8 y9 BJ BK BL hma hsv
   have hi1:(k:Int) < l.length:=by omega
   have rW:=fun W => Nw (pX (l.map aO) k) m.id W
   have hname:=fun W => AL m.name W
   generalize pX (l.map aO) k=z at *
   go_upto_region 6 with fail
   generalize dJ:wr.alloc _=wd2
   have ⟨hb1,M⟩:=bH dJ
   clear dJ
   have hl5:=hb.size
   replace hb:=dT hb hb1
   clear hb1
   generalize wr.heap.size=g4 at *
   clear x0 x1 x2 x3 x4 x5 x6 x7 x8 x9 x10 x11 x12
   have lW:=M.out.e0
   have nH:=M.out.e1
   cases hia:FI z m.id with
   | false =>
    rw [hia] at rW hid
    have EN:=Lib.hid rW
    have uG:=Lib.hid hid
    clear hid rW hia hname
    go_wp2_with fail
    clear lW nH
    ((with_reducible refine (EN.out _).mono ?_);rintro e wV ⟨rfl,rfl⟩)
    have Hno:Hid (gK true l=false):=by show _=_;unfold gK;rw [uG.out];simp
    go_wp2_with fail
    go_ret
    exact ⟨au Hno.out.symm,hb⟩
   | true =>
    rw [hia,Bool.true_and] at hid
    rw [hia] at rW
    have EN:=Lib.hid rW
    clear rW hia
    cases hn:nameB m.name with
    | false =>
     rw [hn] at hname hid
     have HN:=Lib.hid hname
     have uG:=Lib.hid hid
     clear hid hname hn
     go_wp2_with fail
     clear lW nH
     ((with_reducible refine (EN.out _).mono ?_);rintro e uJ ⟨rfl,rfl⟩)
     have nH:=M.out.e1
     go_wp2_with fail
     clear nH
     ((with_reducible refine (HN.out _).mono ?_);rintro e kE ⟨rfl,rfl⟩)
     have Hno:Hid (gK true l=false):=by show _=_;unfold gK;rw [uG.out];simp
     go_wp2_with fail
     go_ret
     exact ⟨au Hno.out.symm,hb⟩
    | true =>
     rw [hn,Bool.true_and] at hid
     rw [hn] at hname
     have HN:=Lib.hid hname
     have uG:=Lib.hid hid
     clear hid hname hn
     go_wp2_with fail
     clear lW nH
     ((with_reducible refine (EN.out _).mono ?_);rintro e xJ ⟨rfl,rfl⟩)
     have nH:=M.out.e1
     go_wp2_with fail
     clear nH
     ((with_reducible refine (HN.out _).mono ?_);rintro e xP ⟨rfl,rfl⟩)
     have hcr:m.jR=true∨m.jR=false:=by cases m.jR <;> simp
     have hhd:m.iR=true∨m.iR=false:=by cases m.iR <;> simp
     rcases hcr with hcr | hcr
     ·
      rcases hhd with hhd | hhd
      ·
       skip
       have Hm:fF (!true) m=false:=by unfold fF;rw [hcr,hhd];rfl
       have NK:Hid ((l.all (fF (!true)) && kL (l.map aO) none [])=false):=by show _=_;rw [uG.out,Hm];rfl
       have Hno:Hid (gK true l=false):=by show _=_;unfold gK;rw [NK.out];rfl
       clear Hm
       have qo:=M.out.e3
       have kQ:=M.out.e4
       go_wp2_with fail
       go_ret
       exact ⟨au Hno.out.symm,hb⟩
      skip
      obtain ⟨-,-,-,qo,kQ,wJ,wK,wL,wM,wO,qP,qQ,qR⟩:=M.out.c13
      go_wp2_with fail
      clear qo kQ wJ wK wL wM wO qP qQ qR
      ((with_reducible refine (HSV.out _ (Lh.out.on hb)).mono ?_);rintro e qH ⟨rfl,kW⟩)
      replace M:=b1 M kW
      replace hb:=dT hb kW
      clear kW
      cases hbl:iH m.dflt kJ with
      | true =>
       have JI:Hid (fF (!true) m=true):=by show _=_;unfold fF;rw [hcr,hhd,hbl];rfl
       clear hbl
       have JJ:=Lib.hid M.out
       have HB0:=Lib.hid hb
       obtain ⟨gM,hgM⟩ : ∃ g,g=g4:=⟨_,rfl⟩
       subst hgM
       go_wp2_with fail
       go_loopw [8] (fun j ws => ∃ q:Nat,q≤k∧j = .int .i64 q∧(((l.map aO).map Prod.snd).take q).contains m.name=false∧Has ws gM 77 #[.int .i64 m.id,.string ⟨m.name.toArray⟩,.int .i64 m.ty,.bool m.jR,.bool m.iR,.int .i64 m.dflt.kind,.bool m.dflt.bool,.int .i64 m.dflt.num,.string ⟨m.dflt.str.toArray⟩,.int .i64 m.dflt.id,.slice D1 m.dflt.keys.length d1,.slice D2 m.dflt.items.length d2,.slice D3 m.dflt.rest.length d3]∧Below w.heap.size w ws) (fun j _ => k - (intOf j).toNat)
       case atStart => exact ⟨0,by omega,rfl,rfl,JJ.out,HB0.out⟩
       case round =>
        clear M JJ HB0
        obtain ⟨q,hq,rfl,hnc,M,hb⟩:=hrel
        replace M:=Lib.hid M
        by_cases hqk:q < k
        ·
         have nD:q < l.length:=by omega
         obtain ⟨ek,ei,er,JK,-⟩:=BP.out q nD
         have y2:=((hb).cell (p:=⟨ba,_,none⟩) hb1).trans JK.2.1
         have hsu:=wZ ((l.map aO).map Prod.snd) q (by simpa using nD) m.name
         have hit:=F5 ((l.map aO).map Prod.snd) q k hqk (by simpa using hk)
         rw [List.getElem_map,List.getElem_map] at hsu hit
         have Zy:(q:Int) < k:=by omega
         have Zz:(q:Int) < l.length:=by omega
         simp only [aO] at hsu hit
         generalize l[q].name=p at *
         clear JK
         by_cases hps:p=m.name
         ·
          have BM:(p == m.name)=true:=by simp [hps]
          have Hno:Hid (gK true l=false):=by
           show _=_
           unfold gK;rw [uG.out,JI.out,List.map_take]
           have:(((l.map aO).map Prod.snd).take k).contains m.name=true:=by rw [← hps];exact hit
           rw [this];simp
          clear hps hsu hit hnc
          have nH:=M.out.e1
          go_upto_region 13 with fail
          go_quiet (fail)
          go_wp2_with fail
          go_ret
          exact ⟨au Hno.out.symm,below_drewN hb _⟩
         have BM:(p == m.name)=false:=by simpa using hps
         have JC:Hid ((((l.map aO).map Prod.snd).take (q+1)).contains m.name=false):=by show _=_;rw [hsu,hnc,BM];rfl
         clear hps hsu hit hnc
         have nH:=M.out.e1
         go_upto_region 13 with fail
         go_quiet (fail)
         go_wp2_with fail
         go_roundw
         case rel => exact ⟨q+1,by omega,by go_num,JC.out,M.out.drewN _,below_drewN hb _⟩
         case measure => simp [intOf];omega
        obtain rfl:q=k:=by omega
        have jo:Hid ((l.all (fF (!true)) && kL (l.map aO) none [])=((l.drop (q+1)).all (fF (!true)) && kL ((l.map aO).drop (q+1)) (jU (l.map aO) (q+1)) (((l.map aO).take (q+1)).map Prod.snd))):=by
         show _=_
         rw [uG.out,JI.out,List.map_take,hnc,Ws.out,← Wu.out,List.map_take];simp
        clear hnc
        have lW:=M.out.e0
        go_wp2_with fail
        go_roundw
        case rel => exact ⟨q+1,by omega,by go_num,by rw [HZ.out],jo.out,hb⟩
        case measure => simp [intOf];omega
      | false =>
       have Hm:fF (!true) m=false:=by unfold fF;rw [hcr,hhd,hbl];rfl
       have Hno:Hid (gK true l=false):=by show _=_;unfold gK;rw [uG.out,Hm];simp
       clear hbl Hm
       go_wp2_with fail
       go_ret
       exact ⟨au Hno.out.symm,hb⟩
     rcases hhd with hhd | hhd
     ·
      skip
      have JI:Hid (fF (!true) m=true):=by show _=_;unfold fF;rw [hcr,hhd];rfl
      have qo:=M.out.e3
      have kQ:=M.out.e4
      go_upto_region 10 with fail
      have JJ:=Lib.hid M.out
      have HB0:=Lib.hid hb
      clear qo kQ
      obtain ⟨gM,hgM⟩ : ∃ g,g=g4:=⟨_,rfl⟩
      subst hgM
      go_wp2_with fail
      go_loopw [8] (fun j ws => ∃ q:Nat,q≤k∧j = .int .i64 q∧(((l.map aO).map Prod.snd).take q).contains m.name=false∧Has ws gM 77 #[.int .i64 m.id,.string ⟨m.name.toArray⟩,.int .i64 m.ty,.bool m.jR,.bool m.iR,.int .i64 m.dflt.kind,.bool m.dflt.bool,.int .i64 m.dflt.num,.string ⟨m.dflt.str.toArray⟩,.int .i64 m.dflt.id,.slice D1 m.dflt.keys.length d1,.slice D2 m.dflt.items.length d2,.slice D3 m.dflt.rest.length d3]∧Below w.heap.size w ws) (fun j _ => k - (intOf j).toNat)
      case atStart => exact ⟨0,by omega,rfl,rfl,JJ.out,HB0.out⟩
      case round =>
       clear M JJ HB0
       obtain ⟨q,hq,rfl,hnc,M,hb⟩:=hrel
       replace M:=Lib.hid M
       by_cases hqk:q < k
       ·
        have nD:q < l.length:=by omega
        obtain ⟨ek,ei,er,JK,-⟩:=BP.out q nD
        have y2:=((hb).cell (p:=⟨ba,_,none⟩) hb1).trans JK.2.1
        have hsu:=wZ ((l.map aO).map Prod.snd) q (by simpa using nD) m.name
        have hit:=F5 ((l.map aO).map Prod.snd) q k hqk (by simpa using hk)
        rw [List.getElem_map,List.getElem_map] at hsu hit
        have Zy:(q:Int) < k:=by omega
        have Zz:(q:Int) < l.length:=by omega
        simp only [aO] at hsu hit
        generalize l[q].name=p at *
        clear JK
        by_cases hps:p=m.name
        ·
         have BM:(p == m.name)=true:=by simp [hps]
         have Hno:Hid (gK true l=false):=by
          show _=_
          unfold gK;rw [uG.out,JI.out,List.map_take]
          have:(((l.map aO).map Prod.snd).take k).contains m.name=true:=by rw [← hps];exact hit
          rw [this];simp
         clear hps hsu hit hnc
         have nH:=M.out.e1
         go_upto_region 13 with fail
         go_quiet (fail)
         go_wp2_with fail
         go_ret
         exact ⟨au Hno.out.symm,below_drewN hb _⟩
        have BM:(p == m.name)=false:=by simpa using hps
        have JC:Hid ((((l.map aO).map Prod.snd).take (q+1)).contains m.name=false):=by show _=_;rw [hsu,hnc,BM];rfl
        clear hps hsu hit hnc
        have nH:=M.out.e1
        go_upto_region 13 with fail
        go_quiet (fail)
        go_wp2_with fail
        go_roundw
        case rel => exact ⟨q+1,by omega,by go_num,JC.out,M.out.drewN _,below_drewN hb _⟩
        case measure => simp [intOf];omega
       obtain rfl:q=k:=by omega
       have jo:Hid ((l.all (fF (!true)) && kL (l.map aO) none [])=((l.drop (q+1)).all (fF (!true)) && kL ((l.map aO).drop (q+1)) (jU (l.map aO) (q+1)) (((l.map aO).take (q+1)).map Prod.snd))):=by
        show _=_
        rw [uG.out,JI.out,List.map_take,hnc,Ws.out,← Wu.out,List.map_take];simp
       clear hnc
       have lW:=M.out.e0
       go_wp2_with fail
       go_roundw
       case rel => exact ⟨q+1,by omega,by go_num,by rw [HZ.out],jo.out,hb⟩
       case measure => simp [intOf];omega
     skip
     obtain ⟨-,-,-,qo,kQ,wJ,wK,wL,wM,wO,qP,qQ,qR⟩:=M.out.c13
     go_wp2_with fail
     clear qo kQ wJ wK wL wM wO qP qQ qR
     ((with_reducible refine (HSV.out _ (Lh.out.on hb)).mono ?_);rintro e qY ⟨rfl,pz⟩)
     replace M:=b1 M pz
     replace hb:=dT hb pz
     clear pz
     cases hbl:iH m.dflt kJ with
     | true =>
      have JI:Hid (fF (!true) m=true):=by show _=_;unfold fF;rw [hcr,hhd,hbl];rfl
      clear hbl
      have JJ:=Lib.hid M.out
      have HB0:=Lib.hid hb
      obtain ⟨gM,hgM⟩ : ∃ g,g=g4:=⟨_,rfl⟩
      subst hgM
      go_wp2_with fail
      go_loopw [8] (fun j ws => ∃ q:Nat,q≤k∧j = .int .i64 q∧(((l.map aO).map Prod.snd).take q).contains m.name=false∧Has ws gM 77 #[.int .i64 m.id,.string ⟨m.name.toArray⟩,.int .i64 m.ty,.bool m.jR,.bool m.iR,.int .i64 m.dflt.kind,.bool m.dflt.bool,.int .i64 m.dflt.num,.string ⟨m.dflt.str.toArray⟩,.int .i64 m.dflt.id,.slice D1 m.dflt.keys.length d1,.slice D2 m.dflt.items.length d2,.slice D3 m.dflt.rest.length d3]∧Below w.heap.size w ws) (fun j _ => k - (intOf j).toNat)
      case atStart => exact ⟨0,by omega,rfl,rfl,JJ.out,HB0.out⟩
      case round =>
       clear M JJ HB0
       obtain ⟨q,hq,rfl,hnc,M,hb⟩:=hrel
       replace M:=Lib.hid M
       by_cases hqk:q < k
       ·
        have nD:q < l.length:=by omega
        obtain ⟨ek,ei,er,JK,-⟩:=BP.out q nD
        have y2:=((hb).cell (p:=⟨ba,_,none⟩) hb1).trans JK.2.1
        have hsu:=wZ ((l.map aO).map Prod.snd) q (by simpa using nD) m.name
        have hit:=F5 ((l.map aO).map Prod.snd) q k hqk (by simpa using hk)
        rw [List.getElem_map,List.getElem_map] at hsu hit
        have Zy:(q:Int) < k:=by omega
        have Zz:(q:Int) < l.length:=by omega
        simp only [aO] at hsu hit
        generalize l[q].name=p at *
        clear JK
        by_cases hps:p=m.name
        ·
         have BM:(p == m.name)=true:=by simp [hps]
         have Hno:Hid (gK true l=false):=by
          show _=_
          unfold gK;rw [uG.out,JI.out,List.map_take]
          have:(((l.map aO).map Prod.snd).take k).contains m.name=true:=by rw [← hps];exact hit
          rw [this];simp
         clear hps hsu hit hnc
         have nH:=M.out.e1
         go_upto_region 13 with fail
         go_quiet (fail)
         go_wp2_with fail
         go_ret
         exact ⟨au Hno.out.symm,below_drewN hb _⟩
        have BM:(p == m.name)=false:=by simpa using hps
        have JC:Hid ((((l.map aO).map Prod.snd).take (q+1)).contains m.name=false):=by show _=_;rw [hsu,hnc,BM];rfl
        clear hps hsu hit hnc
        have nH:=M.out.e1
        go_upto_region 13 with fail
        go_quiet (fail)
        go_wp2_with fail
        go_roundw
        case rel => exact ⟨q+1,by omega,by go_num,JC.out,M.out.drewN _,below_drewN hb _⟩
        case measure => simp [intOf];omega
       obtain rfl:q=k:=by omega
       have jo:Hid ((l.all (fF (!true)) && kL (l.map aO) none [])=((l.drop (q+1)).all (fF (!true)) && kL ((l.map aO).drop (q+1)) (jU (l.map aO) (q+1)) (((l.map aO).take (q+1)).map Prod.snd))):=by
        show _=_
        rw [uG.out,JI.out,List.map_take,hnc,Ws.out,← Wu.out,List.map_take];simp
       clear hnc
       have lW:=M.out.e0
       go_wp2_with fail
       go_roundw
       case rel => exact ⟨q+1,by omega,by go_num,by rw [HZ.out],jo.out,hb⟩
       case measure => simp [intOf];omega
     | false =>
      have Hm:fF (!true) m=false:=by unfold fF;rw [hcr,hhd,hbl];rfl
      have Hno:Hid (gK true l=false):=by show _=_;unfold gK;rw [uG.out,Hm];simp
      clear hbl Hm
      go_wp2_with fail
      go_ret
      exact ⟨au Hno.out.symm,hb⟩
  obtain rfl:k=l.length:=by omega
  rw [List.drop_eq_nil_of_le (Nat.le_refl _),List.drop_eq_nil_of_le (by simp),kL] at hid
  have Hs:Hid (gK true l=(decide (l.length≤16) && (true || decide (1≤l.length)))):=by
   show _=_
   unfold gK;rw [hid];rfl
  clear hid
  go_wp2_with fail
  all_goals
   go_ret
   exact ⟨au (by rw [Hs.out];first | rfl | (simp;done) | (rw [Bool.eq_iff_iff];simp;omega) | (simp_all;done) | (simp_all;omega)),hb⟩
set_option maxRecDepth 100000 in
theorem KH (l:List Mem) (va:Value) (w:World) (hl:l.length≤140737488351232) (h1:lN w w.heap.size va l) :
  Calls Tryz.prog 123 #[va,.bool false] w fun e w' => e = .returned (.bool (gK false l))∧Below w.heap.size w w':=by
 obtain ⟨A,c,rfl,hca⟩:=h1.form
 by_cases hz0:l.length=0
 ·
  have hnil:=List.eq_nil_of_length_eq_zero hz0
  subst hnil
  clear h1
  go_enter Tryz.func123,Tryz.ntmps123
  go_wp2
  refine wp_loop_rounds 1 ?_
  rw [rounds_succ]
  go_wp2
  go_ret
  exact ⟨rfl,Below.refl _ _⟩
 obtain ⟨ba,o1,rfl,hb1,hel⟩:=h1.elem (by omega)
 have BP:=Lib.hid hel
 clear h1 hel
 go_enter Tryz.func123,Tryz.ntmps123
 go_wp2_with fail
 go_loopw [5,6] (fun b i wr => ∃ k:Nat,k≤l.length∧i = .int .i64 k∧b = .int .i64 (pX (l.map aO) k)∧(l.all (fF (!false)) && kL (l.map aO) none [])=((l.drop k).all (fF (!false)) && kL ((l.map aO).drop k) (jU (l.map aO) k) (((l.map aO).take k).map Prod.snd))∧Below w.heap.size w wr) (fun _ i _ => l.length - (intOf i).toNat)
 case atStart => exact ⟨0,by omega,rfl,rfl,by simp [jU],Below.refl _ _⟩
 case round =>
  obtain ⟨k,hk,rfl,rfl,hid,hb⟩:=hrel
  by_cases hlt:k < l.length
  ·
   obtain ⟨dk,di,dr,hcells,hma⟩:=BP.out k hlt
   have hlk:k < (l.map aO).length:=by simpa using hlt
   have hgk:(l.map aO)[k]=(l[k].id,l[k].name):=by rw [List.getElem_map];rfl
   rw [XE l k hlt] at hid
   have HZ:Hid (pX (l.map aO) (k+1)=l[k].id):=by show _=_;rw [Ih _ k hlk,hgk]
   have Ws:Hid (jU (l.map aO) (k+1)=some l[k].id):=by show _=_;rw [qJ _ k hlk,hgk]
   have Wu:Hid (((l.map aO).take k).map Prod.snd ++ [l[k].name]=((l.map aO).take (k+1)).map Prod.snd):=by have h:=sO (l.map aO) k hlk;rw [hgk] at h;exact h
   clear hgk hlk
   generalize l[k]=m at *
   obtain ⟨D1,d1,D2,d2,D3,d3,rfl,rfl,rfl,-,-,-⟩:=hma.dflt.forms
   have Lh:=Lib.hid hma.dflt
   have hsv:∀ W,ValAt W W.heap.size m.dflt (.slice D1 m.dflt.keys.length d1) (.slice D2 m.dflt.items.length d2) (.slice D3 m.dflt.rest.length d3)→Calls Tryz.prog 40 #[iC m.dflt (.slice D1 m.dflt.keys.length d1) (.slice D2 m.dflt.items.length d2) (.slice D3 m.dflt.rest.length d3),.agg #[.int .i64 0,.bool false,.int .i64 0,.string ⟨#[]⟩,.int .i64 0,.slice none 0 0,.slice none 0 0,.slice none 0 0]] W fun e w' => e = .returned (.bool (iH m.dflt kJ))∧Below W.heap.size W w' :=
    fun W h => EG (nodes m.dflt+1) m.dflt kJ _ _ _ (.slice none 0 0) (.slice none 0 0) (.slice none 0 0) W (by omega) h (MP _ _)
   have HSV:=Lib.hid hsv
   obtain ⟨y0,y1,y2,y3,y4,y5,y6,y7,y8,y9,BJ,BK,BL⟩:=hcells
   have x0:=(hb.cell (p:=⟨ba,_,none⟩) hb1).trans y0
   have x1:=(hb.cell (p:=⟨ba,_,none⟩) hb1).trans y1
   have x2:=(hb.cell (p:=⟨ba,_,none⟩) hb1).trans y2
   have x3:=(hb.cell (p:=⟨ba,_,none⟩) hb1).trans y3
   have x4:=(hb.cell (p:=⟨ba,_,none⟩) hb1).trans y4
   have x5:=(hb.cell (p:=⟨ba,_,none⟩) hb1).trans y5
   have x6:=(hb.cell (p:=⟨ba,_,none⟩) hb1).trans y6
   have x7:=(hb.cell (p:=⟨ba,_,none⟩) hb1).trans y7
   have x8:=(hb.cell (p:=⟨ba,_,none⟩) hb1).trans y8
   have x9:=(hb.cell (p:=⟨ba,_,none⟩) hb1).trans y9
   have x10:=(hb.cell (p:=⟨ba,_,none⟩) hb1).trans BJ
   have x11:=(hb.cell (p:=⟨ba,_,none⟩) hb1).trans BK
   have x12:=(hb.cell (p:=⟨ba,_,none⟩) hb1).trans BL
   clear y0 y1 y2 y3 y4 y5 y6 y7 y8 y9 BJ BK BL hma hsv
   have hi1:(k:Int) < l.length:=by omega
   have rW:=fun W => Nw (pX (l.map aO) k) m.id W
   have hname:=fun W => AL m.name W
   generalize pX (l.map aO) k=z at *
   go_upto_region 6 with fail
   generalize qF:wr.alloc _=qj
   have ⟨jw,M⟩:=bH qF
   clear qF
   have Gf:=hb.size
   replace hb:=dT hb jw
   clear jw
   generalize wr.heap.size=g23 at *
   clear x0 x1 x2 x3 x4 x5 x6 x7 x8 x9 x10 x11 x12
   have lW:=M.out.e0
   have nH:=M.out.e1
   cases hia:FI z m.id with
   | false =>
    rw [hia] at rW hid
    have EN:=Lib.hid rW
    have uG:=Lib.hid hid
    clear hid rW hia hname
    go_wp2_with fail
    clear lW nH
    ((with_reducible refine (EN.out _).mono ?_);rintro e Bj ⟨rfl,rfl⟩)
    have Hno:Hid (gK false l=false):=by show _=_;unfold gK;rw [uG.out];simp
    go_wp2_with fail
    go_ret
    exact ⟨au Hno.out.symm,hb⟩
   | true =>
    rw [hia,Bool.true_and] at hid
    rw [hia] at rW
    have EN:=Lib.hid rW
    clear rW hia
    cases hn:nameB m.name with
    | false =>
     rw [hn] at hname hid
     have HN:=Lib.hid hname
     have uG:=Lib.hid hid
     clear hid hname hn
     go_wp2_with fail
     clear lW nH
     ((with_reducible refine (EN.out _).mono ?_);rintro e uX ⟨rfl,rfl⟩)
     have nH:=M.out.e1
     go_wp2_with fail
     clear nH
     ((with_reducible refine (HN.out _).mono ?_);rintro e Bo ⟨rfl,rfl⟩)
     have Hno:Hid (gK false l=false):=by show _=_;unfold gK;rw [uG.out];simp
     go_wp2_with fail
     go_ret
     exact ⟨au Hno.out.symm,hb⟩
    | true =>
     rw [hn,Bool.true_and] at hid
     rw [hn] at hname
     have HN:=Lib.hid hname
     have uG:=Lib.hid hid
     clear hid hname hn
     go_wp2_with fail
     clear lW nH
     ((with_reducible refine (EN.out _).mono ?_);rintro e wP ⟨rfl,rfl⟩)
     have nH:=M.out.e1
     go_wp2_with fail
     clear nH
     ((with_reducible refine (HN.out _).mono ?_);rintro e mW ⟨rfl,rfl⟩)
     have hcr:m.jR=true∨m.jR=false:=by cases m.jR <;> simp
     have hhd:m.iR=true∨m.iR=false:=by cases m.iR <;> simp
     rcases hcr with hcr | hcr
     ·
      rcases hhd with hhd | hhd
      ·
       skip
       have Hm:fF (!false) m=false:=by unfold fF;rw [hcr,hhd];rfl
       have NK:Hid ((l.all (fF (!false)) && kL (l.map aO) none [])=false):=by show _=_;rw [uG.out,Hm];rfl
       have Hno:Hid (gK false l=false):=by show _=_;unfold gK;rw [NK.out];rfl
       clear Hm
       have qo:=M.out.e3
       have kQ:=M.out.e4
       go_wp2_with fail
       go_ret
       exact ⟨au Hno.out.symm,hb⟩
      skip
      have Hm:fF (!false) m=false:=by unfold fF;rw [hcr,hhd];rfl
      have NK:Hid ((l.all (fF (!false)) && kL (l.map aO) none [])=false):=by show _=_;rw [uG.out,Hm];rfl
      have Hno:Hid (gK false l=false):=by show _=_;unfold gK;rw [NK.out];rfl
      clear Hm
      have qo:=M.out.e3
      have kQ:=M.out.e4
      go_wp2_with fail
      go_ret
      exact ⟨au Hno.out.symm,hb⟩
     rcases hhd with hhd | hhd
     ·
      skip
      have Hm:fF (!false) m=false:=by unfold fF;rw [hcr,hhd];rfl
      have NK:Hid ((l.all (fF (!false)) && kL (l.map aO) none [])=false):=by show _=_;rw [uG.out,Hm];rfl
      have Hno:Hid (gK false l=false):=by show _=_;unfold gK;rw [NK.out];rfl
      clear Hm
      have qo:=M.out.e3
      have kQ:=M.out.e4
      go_wp2_with fail
      go_ret
      exact ⟨au Hno.out.symm,hb⟩
     skip
     obtain ⟨-,-,-,qo,kQ,wJ,wK,wL,wM,wO,qP,qQ,qR⟩:=M.out.c13
     go_wp2_with fail
     clear qo kQ wJ wK wL wM wO qP qQ qR
     ((with_reducible refine (HSV.out _ (Lh.out.on hb)).mono ?_);rintro e uO ⟨rfl,DN⟩)
     replace M:=b1 M DN
     replace hb:=dT hb DN
     clear DN
     cases hbl:iH m.dflt kJ with
     | true =>
      have JI:Hid (fF (!false) m=true):=by show _=_;unfold fF;rw [hcr,hhd,hbl];rfl
      clear hbl
      have JJ:=Lib.hid M.out
      have HB0:=Lib.hid hb
      obtain ⟨gM,hgM⟩ : ∃ g,g=g23:=⟨_,rfl⟩
      subst hgM
      go_wp2_with fail
      go_loopw [8] (fun j ws => ∃ q:Nat,q≤k∧j = .int .i64 q∧(((l.map aO).map Prod.snd).take q).contains m.name=false∧Has ws gM 77 #[.int .i64 m.id,.string ⟨m.name.toArray⟩,.int .i64 m.ty,.bool m.jR,.bool m.iR,.int .i64 m.dflt.kind,.bool m.dflt.bool,.int .i64 m.dflt.num,.string ⟨m.dflt.str.toArray⟩,.int .i64 m.dflt.id,.slice D1 m.dflt.keys.length d1,.slice D2 m.dflt.items.length d2,.slice D3 m.dflt.rest.length d3]∧Below w.heap.size w ws) (fun j _ => k - (intOf j).toNat)
      case atStart => exact ⟨0,by omega,rfl,rfl,JJ.out,HB0.out⟩
      case round =>
       clear M JJ HB0
       obtain ⟨q,hq,rfl,hnc,M,hb⟩:=hrel
       replace M:=Lib.hid M
       by_cases hqk:q < k
       ·
        have nD:q < l.length:=by omega
        obtain ⟨ek,ei,er,JK,-⟩:=BP.out q nD
        have y2:=((hb).cell (p:=⟨ba,_,none⟩) hb1).trans JK.2.1
        have hsu:=wZ ((l.map aO).map Prod.snd) q (by simpa using nD) m.name
        have hit:=F5 ((l.map aO).map Prod.snd) q k hqk (by simpa using hk)
        rw [List.getElem_map,List.getElem_map] at hsu hit
        have Zy:(q:Int) < k:=by omega
        have Zz:(q:Int) < l.length:=by omega
        simp only [aO] at hsu hit
        generalize l[q].name=p at *
        clear JK
        by_cases hps:p=m.name
        ·
         have BM:(p == m.name)=true:=by simp [hps]
         have Hno:Hid (gK false l=false):=by
          show _=_
          unfold gK;rw [uG.out,JI.out,List.map_take]
          have:(((l.map aO).map Prod.snd).take k).contains m.name=true:=by rw [← hps];exact hit
          rw [this];simp
         clear hps hsu hit hnc
         have nH:=M.out.e1
         go_upto_region 13 with fail
         go_quiet (fail)
         go_wp2_with fail
         go_ret
         exact ⟨au Hno.out.symm,below_drewN hb _⟩
        have BM:(p == m.name)=false:=by simpa using hps
        have JC:Hid ((((l.map aO).map Prod.snd).take (q+1)).contains m.name=false):=by show _=_;rw [hsu,hnc,BM];rfl
        clear hps hsu hit hnc
        have nH:=M.out.e1
        go_upto_region 13 with fail
        go_quiet (fail)
        go_wp2_with fail
        go_roundw
        case rel => exact ⟨q+1,by omega,by go_num,JC.out,M.out.drewN _,below_drewN hb _⟩
        case measure => simp [intOf];omega
       obtain rfl:q=k:=by omega
       have jo:Hid ((l.all (fF (!false)) && kL (l.map aO) none [])=((l.drop (q+1)).all (fF (!false)) && kL ((l.map aO).drop (q+1)) (jU (l.map aO) (q+1)) (((l.map aO).take (q+1)).map Prod.snd))):=by
        show _=_
        rw [uG.out,JI.out,List.map_take,hnc,Ws.out,← Wu.out,List.map_take];simp
       clear hnc
       have lW:=M.out.e0
       go_wp2_with fail
       go_roundw
       case rel => exact ⟨q+1,by omega,by go_num,by rw [HZ.out],jo.out,hb⟩
       case measure => simp [intOf];omega
     | false =>
      have Hm:fF (!false) m=false:=by unfold fF;rw [hcr,hhd,hbl];rfl
      have Hno:Hid (gK false l=false):=by show _=_;unfold gK;rw [uG.out,Hm];simp
      clear hbl Hm
      go_wp2_with fail
      go_ret
      exact ⟨au Hno.out.symm,hb⟩
  obtain rfl:k=l.length:=by omega
  rw [List.drop_eq_nil_of_le (Nat.le_refl _),List.drop_eq_nil_of_le (by simp),kL] at hid
  have Hs:Hid (gK false l=(decide (l.length≤16) && (false || decide (1≤l.length)))):=by
   show _=_
   unfold gK;rw [hid];rfl
  clear hid
  go_wp2_with fail
  all_goals
   go_ret
   exact ⟨au (by rw [Hs.out];first | rfl | (simp;done) | (rw [Bool.eq_iff_iff];simp;omega) | (simp_all;done) | (simp_all;omega)),hb⟩
end Go.Proofs.YthkfapcadhnaeaaGreatDoor
