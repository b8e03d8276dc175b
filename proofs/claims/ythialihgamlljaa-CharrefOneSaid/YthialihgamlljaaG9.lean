-- laid by a program of this session's (wip/tools/myprint.py) over the translation
import Derived.Test.YthialihgamlljaaG0
namespace Go.Proofs.Ythialihgamlljaa.G
open Go.RowKit Go.Proofs.YthialihgamlljaaW.PrintWords Go.Proofs.YthialihgamlljaaW.PrintLast Go.Proofs.YthialihgamlljaaW.PrintMore
attribute [local go_sem] max2_int min2_int max_two min_two max_three min_three max_four min_four   -- for this text's walks alone
set_option linter.unusedVariables false
set_option linter.unusedSimpArgs false

/-! HAND marginaliaref03_Entries: function 38 -/
def marginaliaref03_Entries.tab : List S67 := [⟨⟨#[65, 77, 80]⟩, 38, true⟩, ⟨⟨#[97, 109, 112]⟩, 38, true⟩, ⟨⟨#[76, 84]⟩, 60, true⟩, ⟨⟨#[108, 116]⟩, 60, true⟩, ⟨⟨#[71, 84]⟩, 62, true⟩, ⟨⟨#[103, 116]⟩, 62, true⟩, ⟨⟨#[81, 85, 79, 84]⟩, 34, true⟩, ⟨⟨#[113, 117, 111, 116]⟩, 34, true⟩, ⟨⟨#[110, 98, 115, 112]⟩, 160, true⟩, ⟨⟨#[99, 111, 112, 121]⟩, 169, true⟩, ⟨⟨#[108, 97, 113, 117, 111]⟩, 171, true⟩, ⟨⟨#[110, 111, 116]⟩, 172, true⟩, ⟨⟨#[115, 104, 121]⟩, 173, true⟩, ⟨⟨#[114, 101, 103]⟩, 174, true⟩, ⟨⟨#[100, 101, 103]⟩, 176, true⟩, ⟨⟨#[112, 97, 114, 97]⟩, 182, true⟩, ⟨⟨#[109, 105, 100, 100, 111, 116]⟩, 183, true⟩, ⟨⟨#[114, 97, 113, 117, 111]⟩, 187, true⟩, ⟨⟨#[69, 97, 99, 117, 116, 101]⟩, 201, true⟩, ⟨⟨#[116, 105, 109, 101, 115]⟩, 215, true⟩, ⟨⟨#[115, 122, 108, 105, 103]⟩, 223, true⟩, ⟨⟨#[101, 97, 99, 117, 116, 101]⟩, 233, true⟩, ⟨⟨#[100, 105, 118, 105, 100, 101]⟩, 247, true⟩, ⟨⟨#[117, 117, 109, 108]⟩, 252, true⟩, ⟨⟨#[84, 97, 98]⟩, 9, false⟩, ⟨⟨#[78, 101, 119, 76, 105, 110, 101]⟩, 10, false⟩, ⟨⟨#[101, 120, 99, 108]⟩, 33, false⟩, ⟨⟨#[110, 117, 109]⟩, 35, false⟩, ⟨⟨#[97, 112, 111, 115]⟩, 39, false⟩, ⟨⟨#[108, 112, 97, 114]⟩, 40, false⟩, ⟨⟨#[114, 112, 97, 114]⟩, 41, false⟩, ⟨⟨#[115, 111, 108]⟩, 47, false⟩, ⟨⟨#[99, 111, 108, 111, 110]⟩, 58, false⟩, ⟨⟨#[98, 115, 111, 108]⟩, 92, false⟩, ⟨⟨#[110, 100, 97, 115, 104]⟩, 8211, false⟩, ⟨⟨#[109, 100, 97, 115, 104]⟩, 8212, false⟩, ⟨⟨#[108, 115, 113, 117, 111]⟩, 8216, false⟩, ⟨⟨#[114, 115, 113, 117, 111]⟩, 8217, false⟩, ⟨⟨#[108, 100, 113, 117, 111]⟩, 8220, false⟩, ⟨⟨#[114, 100, 113, 117, 111]⟩, 8221, false⟩, ⟨⟨#[104, 101, 108, 108, 105, 112]⟩, 8230, false⟩, ⟨⟨#[101, 117, 114, 111]⟩, 8364, false⟩, ⟨⟨#[116, 114, 97, 100, 101]⟩, 8482, false⟩, ⟨⟨#[110, 111, 116, 105, 110]⟩, 8713, false⟩, ⟨⟨#[116, 105, 109, 101, 115, 98]⟩, 8864, false⟩]
def marginaliaref03_Entries.f : Option (List S67) := some marginaliaref03_Entries.tab
def marginaliaref03_Entries.vals : Array Value := #[.string ⟨#[65, 77, 80]⟩, .int .i64 38, .bool true, .string ⟨#[97, 109, 112]⟩, .int .i64 38, .bool true, .string ⟨#[76, 84]⟩, .int .i64 60, .bool true, .string ⟨#[108, 116]⟩, .int .i64 60, .bool true, .string ⟨#[71, 84]⟩, .int .i64 62, .bool true, .string ⟨#[103, 116]⟩, .int .i64 62, .bool true, .string ⟨#[81, 85, 79, 84]⟩, .int .i64 34, .bool true, .string ⟨#[113, 117, 111, 116]⟩, .int .i64 34, .bool true, .string ⟨#[110, 98, 115, 112]⟩, .int .i64 160, .bool true, .string ⟨#[99, 111, 112, 121]⟩, .int .i64 169, .bool true, .string ⟨#[108, 97, 113, 117, 111]⟩, .int .i64 171, .bool true, .string ⟨#[110, 111, 116]⟩, .int .i64 172, .bool true, .string ⟨#[115, 104, 121]⟩, .int .i64 173, .bool true, .string ⟨#[114, 101, 103]⟩, .int .i64 174, .bool true, .string ⟨#[100, 101, 103]⟩, .int .i64 176, .bool true, .string ⟨#[112, 97, 114, 97]⟩, .int .i64 182, .bool true, .string ⟨#[109, 105, 100, 100, 111, 116]⟩, .int .i64 183, .bool true, .string ⟨#[114, 97, 113, 117, 111]⟩, .int .i64 187, .bool true, .string ⟨#[69, 97, 99, 117, 116, 101]⟩, .int .i64 201, .bool true, .string ⟨#[116, 105, 109, 101, 115]⟩, .int .i64 215, .bool true, .string ⟨#[115, 122, 108, 105, 103]⟩, .int .i64 223, .bool true, .string ⟨#[101, 97, 99, 117, 116, 101]⟩, .int .i64 233, .bool true, .string ⟨#[100, 105, 118, 105, 100, 101]⟩, .int .i64 247, .bool true, .string ⟨#[117, 117, 109, 108]⟩, .int .i64 252, .bool true, .string ⟨#[84, 97, 98]⟩, .int .i64 9, .bool false, .string ⟨#[78, 101, 119, 76, 105, 110, 101]⟩, .int .i64 10, .bool false, .string ⟨#[101, 120, 99, 108]⟩, .int .i64 33, .bool false, .string ⟨#[110, 117, 109]⟩, .int .i64 35, .bool false, .string ⟨#[97, 112, 111, 115]⟩, .int .i64 39, .bool false, .string ⟨#[108, 112, 97, 114]⟩, .int .i64 40, .bool false, .string ⟨#[114, 112, 97, 114]⟩, .int .i64 41, .bool false, .string ⟨#[115, 111, 108]⟩, .int .i64 47, .bool false, .string ⟨#[99, 111, 108, 111, 110]⟩, .int .i64 58, .bool false, .string ⟨#[98, 115, 111, 108]⟩, .int .i64 92, .bool false, .string ⟨#[110, 100, 97, 115, 104]⟩, .int .i64 8211, .bool false, .string ⟨#[109, 100, 97, 115, 104]⟩, .int .i64 8212, .bool false, .string ⟨#[108, 115, 113, 117, 111]⟩, .int .i64 8216, .bool false, .string ⟨#[114, 115, 113, 117, 111]⟩, .int .i64 8217, .bool false, .string ⟨#[108, 100, 113, 117, 111]⟩, .int .i64 8220, .bool false, .string ⟨#[114, 100, 113, 117, 111]⟩, .int .i64 8221, .bool false, .string ⟨#[104, 101, 108, 108, 105, 112]⟩, .int .i64 8230, .bool false, .string ⟨#[101, 117, 114, 111]⟩, .int .i64 8364, .bool false, .string ⟨#[116, 114, 97, 100, 101]⟩, .int .i64 8482, .bool false, .string ⟨#[110, 111, 116, 105, 110]⟩, .int .i64 8713, .bool false, .string ⟨#[116, 105, 109, 101, 115, 98]⟩, .int .i64 8864, .bool false]
theorem marginaliaref03_Entries.reps (w : World) (b : Nat) (ok : Nat → Prop) : ∀ l : List S67, Reps (Kd.M k67 w b ok) 3 l (l.flatMap fun x => [.string x.f0, .int .i64 x.f1, .bool x.f2])
  | [] => Reps.none _ _
  | x :: r => Reps.c3 (k67_mkM _ _ _ x) (marginaliaref03_Entries.reps w b ok r)
set_option maxRecDepth 100000 in
theorem marginaliaref03_Entries.row (W : World) (base : Nat) (hbase : base ≤ W.heap.size) : Kd.R k67 67 (W.alloc (.cells marginaliaref03_Entries.vals 67)) base (fun _ => True) (.slice (some ⟨W.heap.size, 0, none⟩) 45 45) marginaliaref03_Entries.tab := by
  have hv : marginaliaref03_Entries.vals = (marginaliaref03_Entries.tab.flatMap fun x => [.string x.f0, .int .i64 x.f1, .bool x.f2]).toArray := by kernel_rfl
  refine ⟨fun _ _ => trivial, marginaliaref03_Entries.vals.toList, ?_, ?_⟩
  · exact World.ownsRow_lit (base := base) (e := 67) (size := 3) W marginaliaref03_Entries.vals 45 hbase (by decide) (by kernel_rfl)
  · rw [hv]
    refine (marginaliaref03_Entries.reps W base (fun _ => False) _).imp_ (fun p c hp => Kd.M_mono k67 (fun k hk => hk.1.elim) (Kd.M_below (Kd.M_bound k67 hp) (below_alloc (Below.refl _ _) _)))
set_option maxHeartbeats 4000000 in
set_option maxRecDepth 100000 in
theorem marginaliaref03_Entries.calls (r : List S67) (w : World) (h : marginaliaref03_Entries.f = some r) :
    Calls Try.prog 38 #[] w fun e w' => ∃ v0_ : Value, e = .returned (v0_) ∧ Kd.R k67 67 w' w.heap.size (fun _ => True) v0_ r ∧ Below w.heap.size w w' := by
  obtain rfl := Option.some.inj h
  clear h
  have HR := Aside0.mk (marginaliaref03_Entries.row w w.heap.size (Nat.le_refl _))
  have HB := Aside0.mk ((Below.refl w.heap.size w).alloc (Nat.le_refl _) (.cells marginaliaref03_Entries.vals 67))
  go_enter Try.func38, Try.ntmps38
  go_wp2_with fail
  go_ret
  exact ⟨_, rfl, HR.out, HB.out⟩

end Go.Proofs.Ythialihgamlljaa.G
