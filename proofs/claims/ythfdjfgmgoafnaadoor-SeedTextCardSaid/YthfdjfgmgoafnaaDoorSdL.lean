/- Layer 50: the seed's code; walked. -/
import Derived.Test.YthfdjfgmgoafnaaDoorSdB
namespace Go.Proofs.YthfdjfgmgoafnaaDoor
open Go.RowKit

/-- The notes of the seed's instructions. -/
def noteL : List ByteArray := [
  ⟨#[48, 58, 32, 114, 52, 32, 105, 115, 32, 52, 44, 32, 116, 104, 101, 32, 98, 105, 116, 115, 32, 111, 102, 32, 97, 32, 100, 105, 103, 105, 116]⟩,
  ⟨#[49, 58, 32, 114, 53, 32, 105, 115, 32, 52, 56, 44, 32, 116, 104, 101, 32, 100, 105, 103, 105, 116, 32, 48]⟩,
  ⟨#[50, 58, 32, 114, 54, 32, 105, 115, 32, 49, 48, 44, 32, 104, 111, 119, 32, 109, 97, 110, 121, 32, 100, 105, 103, 105, 116, 115, 32, 116, 104, 101, 114, 101, 32, 97, 114, 101, 44, 32, 97, 110, 100, 32, 97, 32, 108, 105, 110, 101, 32, 102, 101, 101, 100]⟩,
  ⟨#[51, 58, 32, 114, 55, 32, 105, 115, 32, 51, 53, 44, 32, 116, 104, 101, 32, 115, 105, 103, 110, 32, 97, 104, 101, 97, 100, 32, 111, 102, 32, 97, 32, 110, 111, 116, 101]⟩,
  ⟨#[52, 58, 32, 114, 56, 32, 105, 115, 32, 50, 53, 54, 44, 32, 116, 104, 101, 32, 101, 110, 100, 32, 111, 102, 32, 116, 104, 101, 32, 116, 101, 120, 116]⟩,
  ⟨#[53, 58, 32, 114, 57, 32, 105, 115, 32, 57, 55, 44, 32, 116, 104, 101, 32, 108, 101, 116, 116, 101, 114, 32, 97]⟩,
  ⟨#[54, 58, 32, 114, 49, 49, 32, 105, 115, 32, 54, 44, 32, 104, 111, 119, 32, 109, 97, 110, 121, 32, 108, 101, 116, 116, 101, 114, 115, 32, 97, 114, 101, 32, 100, 105, 103, 105, 116, 115]⟩,
  ⟨#[55, 58, 32, 114, 49, 50, 32, 105, 115, 32, 51, 50, 44, 32, 119, 104, 97, 116, 32, 109, 97, 107, 101, 115, 32, 97, 32, 108, 101, 116, 116, 101, 114, 32, 97, 32, 115, 109, 97, 108, 108, 32, 111, 110, 101]⟩,
  ⟨#[56, 58, 32, 97, 32, 98, 121, 116, 101, 32, 98, 101, 103, 105, 110, 115, 58, 32, 114, 49, 48, 32, 105, 115, 32, 49, 44, 32, 110, 111, 32, 100, 105, 103, 105, 116, 32, 121, 101, 116]⟩,
  ⟨#[57, 58, 32, 114, 49, 32, 105, 115, 32, 116, 104, 101, 32, 110, 101, 120, 116, 32, 98, 121, 116, 101, 32, 111, 102, 32, 116, 104, 101, 32, 116, 101, 120, 116]⟩,
  ⟨#[49, 48, 58, 32, 105, 115, 32, 105, 116, 32, 116, 104, 101, 32, 101, 110, 100, 63]⟩,
  ⟨#[49, 49, 58, 32, 116, 104, 101, 110, 32, 104, 97, 108, 116, 44, 32, 97, 116, 32, 51, 51]⟩,
  ⟨#[49, 50, 58, 32, 100, 111, 101, 115, 32, 97, 32, 110, 111, 116, 101, 32, 98, 101, 103, 105, 110, 63]⟩,
  ⟨#[49, 51, 58, 32, 116, 104, 101, 110, 32, 112, 97, 115, 115, 32, 105, 116, 44, 32, 97, 116, 32, 50, 56]⟩,
  ⟨#[49, 52, 58, 32, 104, 111, 119, 32, 102, 97, 114, 32, 105, 115, 32, 105, 116, 32, 98, 101, 104, 105, 110, 100, 32, 48, 63]⟩,
  ⟨#[49, 53, 58, 32, 105, 115, 32, 105, 116, 32, 48, 32, 116, 111, 32, 57, 63]⟩,
  ⟨#[49, 54, 58, 32, 116, 104, 101, 110, 32, 116, 97, 107, 101, 32, 105, 116, 44, 32, 97, 116, 32, 50, 50]⟩,
  ⟨#[49, 55, 58, 32, 97, 32, 103, 114, 101, 97, 116, 32, 108, 101, 116, 116, 101, 114, 32, 98, 101, 99, 111, 109, 101, 115, 32, 97, 32, 115, 109, 97, 108, 108, 32, 111, 110, 101]⟩,
  ⟨#[49, 56, 58, 32, 104, 111, 119, 32, 102, 97, 114, 32, 105, 115, 32, 105, 116, 32, 98, 101, 104, 105, 110, 100, 32, 97, 63]⟩,
  ⟨#[49, 57, 58, 32, 105, 115, 32, 105, 116, 32, 97, 32, 116, 111, 32, 102, 63]⟩,
  ⟨#[50, 48, 58, 32, 105, 102, 32, 110, 111, 116, 44, 32, 108, 101, 116, 32, 105, 116, 32, 98, 101, 58, 32, 116, 104, 101, 32, 110, 101, 120, 116, 32, 98, 121, 116, 101, 44, 32, 97, 116, 32, 57]⟩,
  ⟨#[50, 49, 58, 32, 97, 32, 115, 116, 97, 110, 100, 115, 32, 102, 111, 114, 32, 49, 48]⟩,
  ⟨#[50, 50, 58, 32, 97, 32, 100, 105, 103, 105, 116, 58, 32, 114, 111, 111, 109, 32, 102, 111, 114, 32, 105, 116]⟩,
  ⟨#[50, 51, 58, 32, 105, 116, 32, 115, 116, 97, 110, 100, 115, 32, 98, 101, 104, 105, 110, 100, 32, 116, 104, 101, 32, 111, 116, 104, 101, 114, 32, 111, 110, 101]⟩,
  ⟨#[50, 52, 58, 32, 105, 115, 32, 105, 116, 32, 116, 104, 101, 32, 102, 105, 114, 115, 116, 32, 111, 110, 101, 32, 111, 102, 32, 116, 119, 111, 63]⟩,
  ⟨#[50, 53, 58, 32, 116, 104, 101, 110, 32, 116, 104, 101, 32, 110, 101, 120, 116, 32, 98, 121, 116, 101, 44, 32, 97, 116, 32, 57]⟩,
  ⟨#[50, 54, 58, 32, 116, 119, 111, 32, 100, 105, 103, 105, 116, 115, 32, 97, 114, 101, 32, 97, 32, 98, 121, 116, 101, 58, 32, 112, 117, 116, 32, 105, 116, 32, 111, 117, 116]⟩,
  ⟨#[50, 55, 58, 32, 116, 104, 101, 32, 110, 101, 120, 116, 32, 98, 121, 116, 101, 32, 98, 101, 103, 105, 110, 115, 44, 32, 97, 116, 32, 56]⟩,
  ⟨#[50, 56, 58, 32, 105, 110, 32, 97, 32, 110, 111, 116, 101, 58, 32, 114, 49, 32, 105, 115, 32, 105, 116, 115, 32, 110, 101, 120, 116, 32, 98, 121, 116, 101]⟩,
  ⟨#[50, 57, 58, 32, 105, 115, 32, 105, 116, 32, 97, 32, 108, 105, 110, 101, 32, 102, 101, 101, 100, 63]⟩,
  ⟨#[51, 48, 58, 32, 116, 104, 101, 110, 32, 116, 104, 101, 32, 110, 111, 116, 101, 32, 105, 115, 32, 111, 118, 101, 114, 44, 32, 103, 111, 32, 111, 110, 32, 97, 116, 32, 57]⟩,
  ⟨#[51, 49, 58, 32, 105, 115, 32, 105, 116, 32, 97, 32, 98, 121, 116, 101, 44, 32, 110, 111, 116, 32, 116, 104, 101, 32, 101, 110, 100, 63]⟩,
  ⟨#[51, 50, 58, 32, 116, 104, 101, 110, 32, 105, 116, 32, 105, 115, 32, 112, 97, 114, 116, 32, 111, 102, 32, 116, 104, 101, 32, 110, 111, 116, 101, 58, 32, 111, 110, 44, 32, 97, 116, 32, 50, 56]⟩,
  ⟨#[51, 51, 58, 32, 116, 104, 101, 32, 101, 110, 100, 58, 32, 104, 97, 108, 116]⟩]
/-- The cells of the seed's code: an instruction, a note. -/
def codeA : Array Value := #[
  .int .i64 1, .int .i64 4, .int .i64 0, .int .i64 4, .string ⟨#[48, 58, 32, 114, 52, 32, 105, 115, 32, 52, 44, 32, 116, 104, 101, 32, 98, 105, 116, 115, 32, 111, 102, 32, 97, 32, 100, 105, 103, 105, 116]⟩,
  .int .i64 1, .int .i64 5, .int .i64 0, .int .i64 48, .string ⟨#[49, 58, 32, 114, 53, 32, 105, 115, 32, 52, 56, 44, 32, 116, 104, 101, 32, 100, 105, 103, 105, 116, 32, 48]⟩,
  .int .i64 1, .int .i64 6, .int .i64 0, .int .i64 10, .string ⟨#[50, 58, 32, 114, 54, 32, 105, 115, 32, 49, 48, 44, 32, 104, 111, 119, 32, 109, 97, 110, 121, 32, 100, 105, 103, 105, 116, 115, 32, 116, 104, 101, 114, 101, 32, 97, 114, 101, 44, 32, 97, 110, 100, 32, 97, 32, 108, 105, 110, 101, 32, 102, 101, 101, 100]⟩,
  .int .i64 1, .int .i64 7, .int .i64 0, .int .i64 35, .string ⟨#[51, 58, 32, 114, 55, 32, 105, 115, 32, 51, 53, 44, 32, 116, 104, 101, 32, 115, 105, 103, 110, 32, 97, 104, 101, 97, 100, 32, 111, 102, 32, 97, 32, 110, 111, 116, 101]⟩,
  .int .i64 1, .int .i64 8, .int .i64 0, .int .i64 256, .string ⟨#[52, 58, 32, 114, 56, 32, 105, 115, 32, 50, 53, 54, 44, 32, 116, 104, 101, 32, 101, 110, 100, 32, 111, 102, 32, 116, 104, 101, 32, 116, 101, 120, 116]⟩,
  .int .i64 1, .int .i64 9, .int .i64 0, .int .i64 97, .string ⟨#[53, 58, 32, 114, 57, 32, 105, 115, 32, 57, 55, 44, 32, 116, 104, 101, 32, 108, 101, 116, 116, 101, 114, 32, 97]⟩,
  .int .i64 1, .int .i64 11, .int .i64 0, .int .i64 6, .string ⟨#[54, 58, 32, 114, 49, 49, 32, 105, 115, 32, 54, 44, 32, 104, 111, 119, 32, 109, 97, 110, 121, 32, 108, 101, 116, 116, 101, 114, 115, 32, 97, 114, 101, 32, 100, 105, 103, 105, 116, 115]⟩,
  .int .i64 1, .int .i64 12, .int .i64 0, .int .i64 32, .string ⟨#[55, 58, 32, 114, 49, 50, 32, 105, 115, 32, 51, 50, 44, 32, 119, 104, 97, 116, 32, 109, 97, 107, 101, 115, 32, 97, 32, 108, 101, 116, 116, 101, 114, 32, 97, 32, 115, 109, 97, 108, 108, 32, 111, 110, 101]⟩,
  .int .i64 1, .int .i64 10, .int .i64 0, .int .i64 1, .string ⟨#[56, 58, 32, 97, 32, 98, 121, 116, 101, 32, 98, 101, 103, 105, 110, 115, 58, 32, 114, 49, 48, 32, 105, 115, 32, 49, 44, 32, 110, 111, 32, 100, 105, 103, 105, 116, 32, 121, 101, 116]⟩,
  .int .i64 23, .int .i64 1, .int .i64 0, .int .i64 0, .string ⟨#[57, 58, 32, 114, 49, 32, 105, 115, 32, 116, 104, 101, 32, 110, 101, 120, 116, 32, 98, 121, 116, 101, 32, 111, 102, 32, 116, 104, 101, 32, 116, 101, 120, 116]⟩,
  .int .i64 15, .int .i64 3, .int .i64 1, .int .i64 8, .string ⟨#[49, 48, 58, 32, 105, 115, 32, 105, 116, 32, 116, 104, 101, 32, 101, 110, 100, 63]⟩,
  .int .i64 20, .int .i64 3, .int .i64 0, .int .i64 33, .string ⟨#[49, 49, 58, 32, 116, 104, 101, 110, 32, 104, 97, 108, 116, 44, 32, 97, 116, 32, 51, 51]⟩,
  .int .i64 15, .int .i64 3, .int .i64 1, .int .i64 7, .string ⟨#[49, 50, 58, 32, 100, 111, 101, 115, 32, 97, 32, 110, 111, 116, 101, 32, 98, 101, 103, 105, 110, 63]⟩,
  .int .i64 20, .int .i64 3, .int .i64 0, .int .i64 28, .string ⟨#[49, 51, 58, 32, 116, 104, 101, 110, 32, 112, 97, 115, 115, 32, 105, 116, 44, 32, 97, 116, 32, 50, 56]⟩,
  .int .i64 5, .int .i64 2, .int .i64 1, .int .i64 5, .string ⟨#[49, 52, 58, 32, 104, 111, 119, 32, 102, 97, 114, 32, 105, 115, 32, 105, 116, 32, 98, 101, 104, 105, 110, 100, 32, 48, 63]⟩,
  .int .i64 14, .int .i64 3, .int .i64 2, .int .i64 6, .string ⟨#[49, 53, 58, 32, 105, 115, 32, 105, 116, 32, 48, 32, 116, 111, 32, 57, 63]⟩,
  .int .i64 20, .int .i64 3, .int .i64 0, .int .i64 22, .string ⟨#[49, 54, 58, 32, 116, 104, 101, 110, 32, 116, 97, 107, 101, 32, 105, 116, 44, 32, 97, 116, 32, 50, 50]⟩,
  .int .i64 10, .int .i64 1, .int .i64 1, .int .i64 12, .string ⟨#[49, 55, 58, 32, 97, 32, 103, 114, 101, 97, 116, 32, 108, 101, 116, 116, 101, 114, 32, 98, 101, 99, 111, 109, 101, 115, 32, 97, 32, 115, 109, 97, 108, 108, 32, 111, 110, 101]⟩,
  .int .i64 5, .int .i64 2, .int .i64 1, .int .i64 9, .string ⟨#[49, 56, 58, 32, 104, 111, 119, 32, 102, 97, 114, 32, 105, 115, 32, 105, 116, 32, 98, 101, 104, 105, 110, 100, 32, 97, 63]⟩,
  .int .i64 14, .int .i64 3, .int .i64 2, .int .i64 11, .string ⟨#[49, 57, 58, 32, 105, 115, 32, 105, 116, 32, 97, 32, 116, 111, 32, 102, 63]⟩,
  .int .i64 19, .int .i64 3, .int .i64 0, .int .i64 9, .string ⟨#[50, 48, 58, 32, 105, 102, 32, 110, 111, 116, 44, 32, 108, 101, 116, 32, 105, 116, 32, 98, 101, 58, 32, 116, 104, 101, 32, 110, 101, 120, 116, 32, 98, 121, 116, 101, 44, 32, 97, 116, 32, 57]⟩,
  .int .i64 4, .int .i64 2, .int .i64 2, .int .i64 6, .string ⟨#[50, 49, 58, 32, 97, 32, 115, 116, 97, 110, 100, 115, 32, 102, 111, 114, 32, 49, 48]⟩,
  .int .i64 12, .int .i64 10, .int .i64 10, .int .i64 4, .string ⟨#[50, 50, 58, 32, 97, 32, 100, 105, 103, 105, 116, 58, 32, 114, 111, 111, 109, 32, 102, 111, 114, 32, 105, 116]⟩,
  .int .i64 10, .int .i64 10, .int .i64 10, .int .i64 2, .string ⟨#[50, 51, 58, 32, 105, 116, 32, 115, 116, 97, 110, 100, 115, 32, 98, 101, 104, 105, 110, 100, 32, 116, 104, 101, 32, 111, 116, 104, 101, 114, 32, 111, 110, 101]⟩,
  .int .i64 14, .int .i64 3, .int .i64 10, .int .i64 8, .string ⟨#[50, 52, 58, 32, 105, 115, 32, 105, 116, 32, 116, 104, 101, 32, 102, 105, 114, 115, 116, 32, 111, 110, 101, 32, 111, 102, 32, 116, 119, 111, 63]⟩,
  .int .i64 20, .int .i64 3, .int .i64 0, .int .i64 9, .string ⟨#[50, 53, 58, 32, 116, 104, 101, 110, 32, 116, 104, 101, 32, 110, 101, 120, 116, 32, 98, 121, 116, 101, 44, 32, 97, 116, 32, 57]⟩,
  .int .i64 24, .int .i64 10, .int .i64 0, .int .i64 0, .string ⟨#[50, 54, 58, 32, 116, 119, 111, 32, 100, 105, 103, 105, 116, 115, 32, 97, 114, 101, 32, 97, 32, 98, 121, 116, 101, 58, 32, 112, 117, 116, 32, 105, 116, 32, 111, 117, 116]⟩,
  .int .i64 18, .int .i64 0, .int .i64 0, .int .i64 8, .string ⟨#[50, 55, 58, 32, 116, 104, 101, 32, 110, 101, 120, 116, 32, 98, 121, 116, 101, 32, 98, 101, 103, 105, 110, 115, 44, 32, 97, 116, 32, 56]⟩,
  .int .i64 23, .int .i64 1, .int .i64 0, .int .i64 0, .string ⟨#[50, 56, 58, 32, 105, 110, 32, 97, 32, 110, 111, 116, 101, 58, 32, 114, 49, 32, 105, 115, 32, 105, 116, 115, 32, 110, 101, 120, 116, 32, 98, 121, 116, 101]⟩,
  .int .i64 15, .int .i64 3, .int .i64 1, .int .i64 6, .string ⟨#[50, 57, 58, 32, 105, 115, 32, 105, 116, 32, 97, 32, 108, 105, 110, 101, 32, 102, 101, 101, 100, 63]⟩,
  .int .i64 20, .int .i64 3, .int .i64 0, .int .i64 9, .string ⟨#[51, 48, 58, 32, 116, 104, 101, 110, 32, 116, 104, 101, 32, 110, 111, 116, 101, 32, 105, 115, 32, 111, 118, 101, 114, 44, 32, 103, 111, 32, 111, 110, 32, 97, 116, 32, 57]⟩,
  .int .i64 14, .int .i64 3, .int .i64 1, .int .i64 8, .string ⟨#[51, 49, 58, 32, 105, 115, 32, 105, 116, 32, 97, 32, 98, 121, 116, 101, 44, 32, 110, 111, 116, 32, 116, 104, 101, 32, 101, 110, 100, 63]⟩,
  .int .i64 20, .int .i64 3, .int .i64 0, .int .i64 28, .string ⟨#[51, 50, 58, 32, 116, 104, 101, 110, 32, 105, 116, 32, 105, 115, 32, 112, 97, 114, 116, 32, 111, 102, 32, 116, 104, 101, 32, 110, 111, 116, 101, 58, 32, 111, 110, 44, 32, 97, 116, 32, 50, 56]⟩,
  .int .i64 26, .int .i64 0, .int .i64 0, .int .i64 0, .string ⟨#[51, 51, 58, 32, 116, 104, 101, 32, 101, 110, 100, 58, 32, 104, 97, 108, 116]⟩]

theorem wp_of_run {P : Program} {o : Oper} {a : Act} {w w' : World} {K : Act → World → Prop} {Q : Exit → Act → World → Prop} {v : Value} (h : (execOp a.eval o).run P w = .ok (.value v) w') (hk : K (a.put o.dst v) w') : Oper.wp P o a w K Q := by
  unfold Oper.wp
  rw [h]
  exact hk
set_option maxRecDepth 100000 in
set_option maxHeartbeats 4000000 in
theorem seed_code (w : World) :
    Calls Tryd.prog 12 #[] w fun e w' => e = .returned (.slice (some ⟨w.heap.size, 0, none⟩) 34 34) ∧ w.alloc (.cells codeA 51) = w' := by
  go_enter Tryd.func12, Tryd.ntmps12
  go_wp2_with fail
  refine wp_of_run (v := .slice (some ⟨w.heap.size, 0, none⟩) 34 34) (w' := w.alloc (.cells codeA 51)) (by kernel_rfl) ?_
  obtain ⟨W, hW⟩ : ∃ W, w.alloc (.cells codeA 51) = W := ⟨_, rfl⟩
  rw [hW]
  have HW := Lib.hid hW
  clear hW
  go_wp2_with fail
  go_returns
  exact ⟨rfl, HW.out⟩
theorem code_at : ∀ k, k < 34 → ∃ op a b c s, seedP[k]? = some (op, a, b, c) ∧ codeA[k * 5]? = some (.int .i64 (op : Nat)) ∧ codeA[k * 5 + 1]? = some (.int .i64 (a : Nat)) ∧ codeA[k * 5 + 2]? = some (.int .i64 (b : Nat)) ∧ codeA[k * 5 + 3]? = some (.int .i64 (c : Nat)) ∧ codeA[k * 5 + 4]? = some (.string s) ∧ noteL[k]? = some s := by
  intro k hk
  match k, hk with
  | 0, _ => exact ⟨1, 4, 0, 4, noteL.getD 0 ⟨#[]⟩, by kernel_rfl, by kernel_rfl, by kernel_rfl, by kernel_rfl, by kernel_rfl, by kernel_rfl, by kernel_rfl⟩
  | 1, _ => exact ⟨1, 5, 0, 48, noteL.getD 1 ⟨#[]⟩, by kernel_rfl, by kernel_rfl, by kernel_rfl, by kernel_rfl, by kernel_rfl, by kernel_rfl, by kernel_rfl⟩
  | 2, _ => exact ⟨1, 6, 0, 10, noteL.getD 2 ⟨#[]⟩, by kernel_rfl, by kernel_rfl, by kernel_rfl, by kernel_rfl, by kernel_rfl, by kernel_rfl, by kernel_rfl⟩
  | 3, _ => exact ⟨1, 7, 0, 35, noteL.getD 3 ⟨#[]⟩, by kernel_rfl, by kernel_rfl, by kernel_rfl, by kernel_rfl, by kernel_rfl, by kernel_rfl, by kernel_rfl⟩
  | 4, _ => exact ⟨1, 8, 0, 256, noteL.getD 4 ⟨#[]⟩, by kernel_rfl, by kernel_rfl, by kernel_rfl, by kernel_rfl, by kernel_rfl, by kernel_rfl, by kernel_rfl⟩
  | 5, _ => exact ⟨1, 9, 0, 97, noteL.getD 5 ⟨#[]⟩, by kernel_rfl, by kernel_rfl, by kernel_rfl, by kernel_rfl, by kernel_rfl, by kernel_rfl, by kernel_rfl⟩
  | 6, _ => exact ⟨1, 11, 0, 6, noteL.getD 6 ⟨#[]⟩, by kernel_rfl, by kernel_rfl, by kernel_rfl, by kernel_rfl, by kernel_rfl, by kernel_rfl, by kernel_rfl⟩
  | 7, _ => exact ⟨1, 12, 0, 32, noteL.getD 7 ⟨#[]⟩, by kernel_rfl, by kernel_rfl, by kernel_rfl, by kernel_rfl, by kernel_rfl, by kernel_rfl, by kernel_rfl⟩
  | 8, _ => exact ⟨1, 10, 0, 1, noteL.getD 8 ⟨#[]⟩, by kernel_rfl, by kernel_rfl, by kernel_rfl, by kernel_rfl, by kernel_rfl, by kernel_rfl, by kernel_rfl⟩
  | 9, _ => exact ⟨23, 1, 0, 0, noteL.getD 9 ⟨#[]⟩, by kernel_rfl, by kernel_rfl, by kernel_rfl, by kernel_rfl, by kernel_rfl, by kernel_rfl, by kernel_rfl⟩
  | 10, _ => exact ⟨15, 3, 1, 8, noteL.getD 10 ⟨#[]⟩, by kernel_rfl, by kernel_rfl, by kernel_rfl, by kernel_rfl, by kernel_rfl, by kernel_rfl, by kernel_rfl⟩
  | 11, _ => exact ⟨20, 3, 0, 33, noteL.getD 11 ⟨#[]⟩, by kernel_rfl, by kernel_rfl, by kernel_rfl, by kernel_rfl, by kernel_rfl, by kernel_rfl, by kernel_rfl⟩
  | 12, _ => exact ⟨15, 3, 1, 7, noteL.getD 12 ⟨#[]⟩, by kernel_rfl, by kernel_rfl, by kernel_rfl, by kernel_rfl, by kernel_rfl, by kernel_rfl, by kernel_rfl⟩
  | 13, _ => exact ⟨20, 3, 0, 28, noteL.getD 13 ⟨#[]⟩, by kernel_rfl, by kernel_rfl, by kernel_rfl, by kernel_rfl, by kernel_rfl, by kernel_rfl, by kernel_rfl⟩
  | 14, _ => exact ⟨5, 2, 1, 5, noteL.getD 14 ⟨#[]⟩, by kernel_rfl, by kernel_rfl, by kernel_rfl, by kernel_rfl, by kernel_rfl, by kernel_rfl, by kernel_rfl⟩
  | 15, _ => exact ⟨14, 3, 2, 6, noteL.getD 15 ⟨#[]⟩, by kernel_rfl, by kernel_rfl, by kernel_rfl, by kernel_rfl, by kernel_rfl, by kernel_rfl, by kernel_rfl⟩
  | 16, _ => exact ⟨20, 3, 0, 22, noteL.getD 16 ⟨#[]⟩, by kernel_rfl, by kernel_rfl, by kernel_rfl, by kernel_rfl, by kernel_rfl, by kernel_rfl, by kernel_rfl⟩
  | 17, _ => exact ⟨10, 1, 1, 12, noteL.getD 17 ⟨#[]⟩, by kernel_rfl, by kernel_rfl, by kernel_rfl, by kernel_rfl, by kernel_rfl, by kernel_rfl, by kernel_rfl⟩
  | 18, _ => exact ⟨5, 2, 1, 9, noteL.getD 18 ⟨#[]⟩, by kernel_rfl, by kernel_rfl, by kernel_rfl, by kernel_rfl, by kernel_rfl, by kernel_rfl, by kernel_rfl⟩
  | 19, _ => exact ⟨14, 3, 2, 11, noteL.getD 19 ⟨#[]⟩, by kernel_rfl, by kernel_rfl, by kernel_rfl, by kernel_rfl, by kernel_rfl, by kernel_rfl, by kernel_rfl⟩
  | 20, _ => exact ⟨19, 3, 0, 9, noteL.getD 20 ⟨#[]⟩, by kernel_rfl, by kernel_rfl, by kernel_rfl, by kernel_rfl, by kernel_rfl, by kernel_rfl, by kernel_rfl⟩
  | 21, _ => exact ⟨4, 2, 2, 6, noteL.getD 21 ⟨#[]⟩, by kernel_rfl, by kernel_rfl, by kernel_rfl, by kernel_rfl, by kernel_rfl, by kernel_rfl, by kernel_rfl⟩
  | 22, _ => exact ⟨12, 10, 10, 4, noteL.getD 22 ⟨#[]⟩, by kernel_rfl, by kernel_rfl, by kernel_rfl, by kernel_rfl, by kernel_rfl, by kernel_rfl, by kernel_rfl⟩
  | 23, _ => exact ⟨10, 10, 10, 2, noteL.getD 23 ⟨#[]⟩, by kernel_rfl, by kernel_rfl, by kernel_rfl, by kernel_rfl, by kernel_rfl, by kernel_rfl, by kernel_rfl⟩
  | 24, _ => exact ⟨14, 3, 10, 8, noteL.getD 24 ⟨#[]⟩, by kernel_rfl, by kernel_rfl, by kernel_rfl, by kernel_rfl, by kernel_rfl, by kernel_rfl, by kernel_rfl⟩
  | 25, _ => exact ⟨20, 3, 0, 9, noteL.getD 25 ⟨#[]⟩, by kernel_rfl, by kernel_rfl, by kernel_rfl, by kernel_rfl, by kernel_rfl, by kernel_rfl, by kernel_rfl⟩
  | 26, _ => exact ⟨24, 10, 0, 0, noteL.getD 26 ⟨#[]⟩, by kernel_rfl, by kernel_rfl, by kernel_rfl, by kernel_rfl, by kernel_rfl, by kernel_rfl, by kernel_rfl⟩
  | 27, _ => exact ⟨18, 0, 0, 8, noteL.getD 27 ⟨#[]⟩, by kernel_rfl, by kernel_rfl, by kernel_rfl, by kernel_rfl, by kernel_rfl, by kernel_rfl, by kernel_rfl⟩
  | 28, _ => exact ⟨23, 1, 0, 0, noteL.getD 28 ⟨#[]⟩, by kernel_rfl, by kernel_rfl, by kernel_rfl, by kernel_rfl, by kernel_rfl, by kernel_rfl, by kernel_rfl⟩
  | 29, _ => exact ⟨15, 3, 1, 6, noteL.getD 29 ⟨#[]⟩, by kernel_rfl, by kernel_rfl, by kernel_rfl, by kernel_rfl, by kernel_rfl, by kernel_rfl, by kernel_rfl⟩
  | 30, _ => exact ⟨20, 3, 0, 9, noteL.getD 30 ⟨#[]⟩, by kernel_rfl, by kernel_rfl, by kernel_rfl, by kernel_rfl, by kernel_rfl, by kernel_rfl, by kernel_rfl⟩
  | 31, _ => exact ⟨14, 3, 1, 8, noteL.getD 31 ⟨#[]⟩, by kernel_rfl, by kernel_rfl, by kernel_rfl, by kernel_rfl, by kernel_rfl, by kernel_rfl, by kernel_rfl⟩
  | 32, _ => exact ⟨20, 3, 0, 28, noteL.getD 32 ⟨#[]⟩, by kernel_rfl, by kernel_rfl, by kernel_rfl, by kernel_rfl, by kernel_rfl, by kernel_rfl, by kernel_rfl⟩
  | 33, _ => exact ⟨26, 0, 0, 0, noteL.getD 33 ⟨#[]⟩, by kernel_rfl, by kernel_rfl, by kernel_rfl, by kernel_rfl, by kernel_rfl, by kernel_rfl, by kernel_rfl⟩
  | n + 34, h => exact absurd h (by omega)
end Go.Proofs.YthfdjfgmgoafnaaDoor
