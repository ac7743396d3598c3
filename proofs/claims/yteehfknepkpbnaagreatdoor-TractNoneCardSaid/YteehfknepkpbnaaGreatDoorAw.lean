/- The law's own example, and ReadAll at no text, by the executor. -/
import Derived.Test.YteehfknepkpbnaaGreatDoorXe
import Derived.Test.YteehfknepkpbnaaGreatDoorLawn
import Derived.KernelRfl
namespace Go.Ex
open Go.Proofs Go.RowKit Go.Proofs.YteehfknepkpbnaaGreatDoor


theorem Ext.of_below {D : Nat → Option Blk} {n : Nat} {h : H} {ρ : Rn} {w w' : World} (hs : Sim ρ (un h D) w) (b : Below w.heap.size w w') : Ext D n h ρ w n h ρ w' where
  nle := Nat.le_refl _
  le := Rn.le.refl ρ
  out := fun _ _ => ⟨rfl, rfl⟩
  sim := ⟨fun c k hc => (hs.ok c k hc).mono (Rn.le.refl ρ) fun p hp => b.block p.B (hs.lt hc hp), hs.inj, hs.glob⟩
  dom := fun _ hb => .inl hb
  size := b.size
  keep := fun X hX _ => b.block X hX
  img := fun c p hc hp => .inr ⟨c, p, hc, hp, rfl⟩
  os := b.os
  tape := b.tape
  output := b.output
  ro := fun g hg hn => ⟨hn, by
    obtain ⟨c, hc⟩ := Option.ne_none_iff_exists'.1 hn
    exact b.block g (hs.lt (un_some hc) (hs.glob g hg))⟩

def hexN : List Nat → List Nat
  | [] => []
  | c :: r => (([48, 49, 50, 51, 52, 53, 54, 55, 56, 57, 97, 98, 99, 100, 101, 102] : List Nat).getD (c / 16) 0) :: (([48, 49, 50, 51, 52, 53, 54, 55, 56, 57, 97, 98, 99, 100, 101, 102] : List Nat).getD (c % 16) 0) :: hexN r

/-- hex by its contract -/
noncomputable def sHex (args : List AV) (h : H) (n : Nat) : CR := match args with
  | [v] => match slAt 1 v with
    | some (b, off, len) => match getB h b with
      | some (.cells _ m t) => match (cellsOf t m len off).bind bytesUp with
        | some s => match Nat.ble len 1000 with
          | true => .ok (.str (120 :: hexN s)) h n
          | false => .no 401
        | none => .no 402
      | _ => .no 405
    | none => .no 403
  | _ => .no 404
noncomputable def smA : Summ := fun f => match Nat.beq f 19 with
  | true => some sHex
  | false => none

theorem sHex_ok {args : List AV} {h : H} {n : Nat} {v : AV} {h' : H} {n' : Nat} (e : sHex args h n = .ok v h' n') :
    ∃ x b off len el m t cs s, args = [x] ∧ slAt 1 x = some (b, off, len) ∧ getB h b = some (.cells el m t) ∧ cellsOf t m len off = some cs ∧ bytesUp cs = some s ∧ len ≤ 1000 ∧ v = .str (120 :: hexN s) ∧ h' = h ∧ n' = n := by
  unfold sHex at e
  split at e
  · split at e
    · split at e
      · split at e
        · split at e
          · cases e
            rename_i x _ b off len hs _ el m t hb _ s hc _ hl
            cases hcs : cellsOf t m len off with
            | none => rw [hcs] at hc; cases hc
            | some cs => rw [hcs] at hc; exact ⟨x, b, off, len, el, m, t, cs, s, rfl, hs, hb, hcs, hc, Nat.le_of_ble_eq_true hl, rfl, rfl, rfl⟩
          · cases e
        · cases e
      · cases e
    · cases e
  · cases e

theorem hexDig_eq : ∀ i : Fin 16, hexDig i.val = UInt8.ofNat (([48, 49, 50, 51, 52, 53, 54, 55, 56, 57, 97, 98, 99, 100, 101, 102] : List Nat).getD i.val 0) := by decide
theorem hexN_eq : ∀ (s : List Nat), bytesIn s → (hexN s).map UInt8.ofNat = hexD (s.map UInt8.ofNat)
  | [], _ => rfl
  | c :: r, h => by
    have hc : c < 256 := h c (List.mem_cons_self ..)
    have e : (UInt8.ofNat c).toNat = c := by simp; omega
    rw [hexN, List.map_cons, List.map_cons, List.map_cons, hexD, hexN_eq r (fun x hx => h x (List.mem_cons_of_mem _ hx)), e,
      hexDig_eq ⟨c / 16, by omega⟩, hexDig_eq ⟨c % 16, by omega⟩]

theorem hexTab_in : ∀ i : Fin 16, ([48, 49, 50, 51, 52, 53, 54, 55, 56, 57, 97, 98, 99, 100, 101, 102] : List Nat).getD i.val 0 < 256 := by decide
theorem hexN_in : ∀ (s : List Nat), bytesIn s → bytesIn (hexN s)
  | [], _ => fun x hx => by cases hx
  | c :: r, h => fun x hx => by
    have hc : c < 256 := h c (List.mem_cons_self ..)
    rw [hexN] at hx
    rcases List.mem_cons.1 hx with rfl | hx
    · exact hexTab_in ⟨c / 16, by omega⟩
    · rcases List.mem_cons.1 hx with rfl | hx
      · exact hexTab_in ⟨c % 16, by omega⟩
      · exact hexN_in r (fun y hy => h y (List.mem_cons_of_mem _ hy)) x hx
theorem sHex_gen {P : Program} {f : Nat} (he : ∀ args w, (callFunc f args).run P w = .ok (.enter f args) w)
    (H : ∀ (v : Value) (l : List UInt8) (w : World), l.length ≤ 1000 → Bytes v l w.heap.size w → (∀ a c, v = .slice a 0 c → (a = none ∧ c = 0) ∨ ∃ r o, a = some ⟨r, o, none⟩ ∧ r < w.heap.size) →
      Calls P f #[v] w fun e w' => e = .returned (.string ⟨(120 :: hexD l).toArray⟩) ∧ Below w.heap.size w w') :
    ∀ args h n v h' n', sHex args h n = .ok v h' n' → CallOk P f args h n v h' n' := fun args h n v h' n' e => by
  obtain ⟨x, b, off, len, el, m, t, cs, s, e1, hx, hb, hcs, hs, hl, e2, e3, e4⟩ := sHex_ok e
  subst e1 e2 e3 e4
  refine ⟨Nat.le_refl _, fun D ρ w L sim _ _ hL o a next Q k => ?_⟩
  have hcc := cvs_cons hL
  obtain ⟨V, hcc⟩ := hcc
  obtain ⟨Vs, hcc⟩ := hcc
  have h1 := hcc.1
  have h2 := hcc.2.1
  have h3 := hcc.2.2
  clear hcc hL
  subst h3
  have h2' : ([] : List Value) = Vs := Option.some.inj ((cvs_nil ρ).symm.trans h2)
  subst h2'
  obtain ⟨q, cap, hq, hV⟩ := slAt_some hx h1
  subst hV
  obtain ⟨q', C, fz, kk⟩ := sim.cells hb
  rw [kk.hp] at hq; cases hq
  obtain ⟨h3, h4⟩ := cellsOf_some hcs
  obtain ⟨Ws, h5, h6, h7⟩ := kk.reads cs off h4
  obtain ⟨hin, rfl⟩ := bytesUp_ok hs h5
  have hlen : s.length = len := by simp at h6; omega
  have hlt : q.B < w.heap.size := by
    have := kk.hw
    obtain ⟨hh, _⟩ := Array.getElem?_eq_some_iff.1 this
    exact hh
  have hB : Bytes (.slice (some ⟨q.B, q.d + off, none⟩) len cap) (s.map UInt8.ofNat) w.heap.size w := by
    refine .inr ⟨q.B, q.d + off, cap, hlt, by rw [List.length_map, hlen], fun j hj => ?_⟩
    rw [List.length_map] at hj
    have := h7 j (Value.int .u8 (s[j] : Int)) (by simp [hj])
    rw [← Nat.add_assoc] at this
    rw [this]
    congr 2
    have := hin s[j] (List.getElem_mem hj)
    simp
    omega
  have hc := H _ _ w (by rw [List.length_map]; omega) hB (fun a c ev => by
    cases ev
    exact .inr ⟨_, _, rfl, hlt⟩)
  rw [he]
  refine Calls.mono hc fun ex w' ⟨h8, h9⟩ => ?_
  subst h8
  have xx := Ext.of_below (D := D) (n := n') sim h9
  have hcv : cv ρ (.str (120 :: hexN s)) = some (.string ⟨(120 :: hexD (s.map UInt8.ofNat)).toArray⟩) := by
    have hb2 : bytesIn (120 :: hexN s) := by
      intro x hx
      rcases List.mem_cons.1 hx with rfl | hx
      · omega
      · exact hexN_in s hin x hx
    rw [cv_str_mk hb2]; unfold toBA; rw [List.map_cons, hexN_eq s hin]; rfl
  exact k _ ρ w' hcv xx
set_option maxRecDepth 20000 in
theorem sHex_call (hp : progOk Tryz.prog) : ∀ args h n v h' n', sHex args h n = .ok v h' n' → CallOk Tryz.prog 19 args h n v h' n' :=
  sHex_gen (fun args w => enter_of hp Tryz.func19 rfl args w) fun v l w hl hB hn => hex_any v l w (Nat.le_trans hl (by decide)) hB hn
theorem smA_ok (hp : progOk Tryz.prog) : SmOk Tryz.prog smA := fun f s e => by
  unfold smA at e
  split at e
  · rename_i hf
    cases e
    rw [Nat.eq_of_beq_eq_true hf]
    exact sHex_call hp
  · cases e

noncomputable def masksA : List Nat := [0, 0, 0, 524351, 649037107387688950809391079218271, 20070451380471, 16778935, 1, 8589934599, 9463180272814509785103, 659495244413780919383246652837885, 1155173441993703439, 31, 37926794054720156598279, 34426933245, 21, 1005, 5, 19, 1965, 589, 5, 61, 29, 29, 68720556269, 9444733247214267142159, 285, 565149515644943, 115, 51, 19, 5, 5, 5491, 5, 1107, 271, 263111, 288230376187363837, 1, 45, 5, 33011, 5, 1075, 19, 2163, 21, 4339, 524353, 17188391667, 21, 13, 2923003971560093291123168138537876760321514930163, 20426010943356750102455122975, 5, 4195599, 749019592093908130998168547243562859198691857383367, 17247509535, 51, 1180740241714877319165, 1, 21, 524787, 5, 1, 702342826256273603086707106465568295829491, 1, 5, 16661, 13, 5, 5, 258025707324286306038077037417702344326360469428286069005207442095952047694680162063, 258025707324286306038077037417702344326360469428286069005207442095952048244435975951, 5, 3259264009699125022261772349, 19, 19, 71, 71, 563, 2097283, 379892319529162072251379, 1045, 3059, 19, 3, 5, 151115727469970589747187, 21, 21, 1, 1, 1049359, 3065178153942063859782169979497960993316563145093791871, 12969511726029174537007263293320658248604144053106418341009958821177700204347647, 85402898729180844834071855423094652915, 2147492623, 2478196145183, 536871283, 142623763, 73731, 85402898729180844834071855423094652915, 77, 5, 19, 19, 1037, 4723277, 115, 5, 19, 2790326043225016957129968620464209548804093, 349132367079213252695996557422584355880957, 3, 1107300861, 5575, 2247, 5, 15, 5, 1073742323, 19, 5, 5, 5, 5, 51, 2148007937, 10633905175224485463043131848376979443, 332388445497293705751974227426185203, 18253627411, 537428019, 8195, 1, 316912838952437276284744179709, 147, 541127, 282591685588221, 7241422728799453825512461248587207842141690764246140629144465900945243373565, 12260712615765427032697874538844400764112904200754032703, 13, 1, 283674269525191, 4294983623, 13479977363474637008744178037627404269021631574298474821905562469363, 431359146674411775196569486063166539126898127574595464097840211496947, 13, 1, 1134697078100167, 4294983623, 16371, 13, 8421939, 1125899940399155, 70643622093299, 32967, 8657076467, 45, 1, 4403, 4507997682270749, 4403, 1, 1, 1, 1, 1, 1, 1, 1, 1, 1, 1, 1, 1, 1, 1, 1, 1, 1, 1, 1, 1, 0, 0, 0, 0, 0, 0, 0, 0, 0, 0, 0, 0, 0, 0, 0, 0, 0, 0, 0, 0, 0, 0]
noncomputable def E0A : Env := ⟨Tryz.prog, smA, mtP Tryz.prog, fun _ _ => false, fun f => (masksA[f]?).getD 0, 1000000⟩
noncomputable def verbsT : PT AV := putCells .leaf 0 [.str [], .str [115, 101, 116], .str [112, 117, 116], .str [97, 100, 100], .str [100, 114, 111, 112], .str [106, 111, 105, 110], .str [114, 101, 116, 105, 114, 101]]
noncomputable def hGA : H := PT.set (some (.cells 48 7 verbsT)) (path 0) .leaf
theorem mixedA : Tryz.prog.follows .mixedOrders = true := by kernel_rfl
theorem progA : (Tryz.prog.funcs.toList.all fnOk) = true := by kernel_rfl
theorem awakeA : crTrue (xcall E0A 1000 7 [] hGA 200) = true := by kernel_rfl

noncomputable def crIs (r : CR) (v : AV) : Bool := CR.rec (fun _ => false) (fun u _ _ => AV.beq u v) r
theorem crIs_ok {r : CR} {v : AV} (h : crIs r v = true) : ∃ h' n', r = .ok v h' n' := by
  cases r with
  | no w => cases h
  | ok u h1 n1 => exact ⟨h1, n1, by rw [AV.beq_eq u v h]⟩
theorem readAllA : crIs (xcall E0A 1000 14 [.str []] hGA 200) (.tup [.nils, .nat .i64 0, .nat .i64 0]) = true := by kernel_rfl

theorem progOkA : progOk Tryz.prog := fun f fn h => List.all_eq_true.1 progA fn (by
  rw [← Array.getElem?_toList] at h
  exact List.mem_of_getElem? h)

theorem globA {w : World} (g : Gv w) : GlobOk hGA w := fun b k hb => by
  unfold hGA at hb
  by_cases h0 : b = 0
  · subst h0
    rw [getB_set] at hb
    cases hb
    refine ⟨by omega, ⟨0, 0, 0, 0⟩, _, _, rfl, g.v, by simp, by simp, .inl rfl, fun i v hi hv => ?_⟩
    obtain ⟨V, h1, h2⟩ := tree_cells (ρ := rn0) (cs := [.str [], .str [115, 101, 116], .str [112, 117, 116], .str [97, 100, 100], .str [100, 114, 111, 112], .str [106, 111, 105, 110], .str [114, 101, 116, 105, 114, 101]])
      (L := [.string ⟨#[]⟩, .string ⟨#[115, 101, 116]⟩, .string ⟨#[112, 117, 116]⟩, .string ⟨#[97, 100, 100]⟩, .string ⟨#[100, 114, 111, 112]⟩, .string ⟨#[106, 111, 105, 110]⟩, .string ⟨#[114, 101, 116, 105, 114, 101]⟩]) rfl [] i v hi hv
    exact ⟨V, h1, by rw [Nat.zero_add]; exact h2⟩
  · rw [getB_set_ne _ _ h0] at hb
    unfold getB at hb
    rw [PT.get_leaf] at hb
    cases hb

theorem E0A_P : E0A.P = Tryz.prog := by kernel_rfl
theorem E0A_mt : E0A.mt = mtP Tryz.prog := by kernel_rfl
theorem E0A_sm : SmOk Tryz.prog E0A.sm := smA_ok progOkA

theorem awake_ok : AwakeOk := fun _ g => closed_true (E := E0A) mixedA progOkA E0A_P E0A_mt E0A_sm (fun _ _ h => by cases h) Tryz.func7 rfl awakeA (by omega) (globA g)

theorem all_ok : AllOk := fun w g => by
  obtain ⟨h', n', hr⟩ := crIs_ok readAllA
  refine (closed_call (E := E0A) (L := [.string ⟨#[]⟩]) mixedA progOkA E0A_P E0A_mt E0A_sm (fun _ _ h => by cases h) Tryz.func14 rfl hr (by omega) (globA g) rfl).mono fun e w' ⟨V, ρ', h1, h2, _, h4⟩ => ⟨?_, h4⟩
  obtain ⟨L, h5, rfl⟩ := cv_tup h2
  rw [h1]
  have h6 : cvs ρ' [.nils, .nat .i64 0, .nat .i64 0] = some [.slice none 0 0, .int .i64 0, .int .i64 0] := rfl
  rw [h6] at h5
  cases h5
  rfl
end Go.Ex
#print axioms Go.Ex.awake_ok
